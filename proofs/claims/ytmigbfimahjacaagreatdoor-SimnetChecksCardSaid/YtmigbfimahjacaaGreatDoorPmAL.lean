/- Short names of theorems of the library. -/
import GoSem.Dispatch
import GoSem.Step
import Derived.Laws.Sem
import Derived.Laws.Externs
import Derived.Orders
set_option linter.unusedSimpArgs false
set_option linter.unusedVariables false
namespace Go.Pm
section
theorem Wa:type_of% @List.range_succ:=@List.range_succ
theorem Wb:type_of% @List.getElem?_eq_some_iff:=@List.getElem?_eq_some_iff
theorem Wc:type_of% @Option.map_eq_some_iff:=@Option.map_eq_some_iff
theorem Wd:type_of% @Option.some.injEq:=@Option.some.injEq
theorem We:type_of% @List.mem_append:=@List.mem_append
theorem Wf:type_of% @List.length_map:=@List.length_map
theorem Wg:type_of% @Nat.le_refl:=@Nat.le_refl
theorem Wh:type_of% @Bool.and_eq_true:=@Bool.and_eq_true
theorem Wi:type_of% @List.map_cons:=@List.map_cons
theorem Wj:type_of% @List.getElem?_set_ne:=@List.getElem?_set_ne
theorem Wk:type_of% @List.nil_append:=@List.nil_append
theorem Wl:type_of% @List.take_of_length_le:=@List.take_of_length_le
theorem Wm:type_of% @List.mem_map:=@List.mem_map
theorem Wn:type_of% @List.mem_singleton:=@List.mem_singleton
theorem Wo:type_of% @List.getElem?_append_left:=@List.getElem?_append_left
theorem Wp:type_of% @List.append_nil:=@List.append_nil
theorem Wq:type_of% @List.mem_cons:=@List.mem_cons
theorem Wr:type_of% @List.map_nil:=@List.map_nil
theorem Ws:type_of% @List.all_eq_true:=@List.all_eq_true
theorem Wt:type_of% @List.length_append:=@List.length_append
theorem Wu:type_of% @List.cons_append:=@List.cons_append
theorem Wv:type_of% @List.mem_of_getElem?:=@List.mem_of_getElem?
theorem Ww:type_of% @Array.length_toList:=@Array.length_toList
theorem Wx:type_of% @Prod.mk.injEq:=@Prod.mk.injEq
theorem Wy:type_of% @List.getElem?_eq_getElem:=@List.getElem?_eq_getElem
theorem Wz:type_of% @Bool.false_eq_true:=@Bool.false_eq_true
theorem WA:type_of% @List.append_assoc:=@List.append_assoc
theorem WB:type_of% @Nat.mul_le_mul_right:=@Nat.mul_le_mul_right
theorem WC:type_of% @List.getElem?_append_right:=@List.getElem?_append_right
theorem WD:type_of% @List.not_mem_nil:=@List.not_mem_nil
theorem WE:type_of% @List.drop_zero:=@List.drop_zero
theorem WF:type_of% @Nat.zero_add:=@Nat.zero_add
theorem WG:type_of% @Array.ext':=@Array.ext'
theorem WH:type_of% @List.mem_cons_of_mem:=@List.mem_cons_of_mem
theorem WI:type_of% @Int.natCast_zero:=@Int.natCast_zero
theorem WJ:type_of% @List.flatten_cons:=@List.flatten_cons
theorem WK:type_of% @List.length_cons:=@List.length_cons
theorem WL:type_of% @List.eq_nil_of_length_eq_zero:=@List.eq_nil_of_length_eq_zero
theorem WM:type_of% @Nat.le_max_right:=@Nat.le_max_right
theorem WN:type_of% @List.getElem?_take:=@List.getElem?_take
theorem WO:type_of% @Option.map_some:=@Option.map_some
theorem WP:type_of% @Nat.lt_irrefl:=@Nat.lt_irrefl
theorem WQ:type_of% @List.all_cons:=@List.all_cons
theorem WR:type_of% @List.length_take:=@List.length_take
theorem WS:type_of% @Nat.le_max_left:=@Nat.le_max_left
theorem WT:type_of% @List.getElem?_cons_zero:=@List.getElem?_cons_zero
theorem WU:type_of% @List.take_append_drop:=@List.take_append_drop
theorem WV:type_of% @List.getElem?_toArray:=@List.getElem?_toArray
theorem WW:type_of% @Nat.add_mul:=@Nat.add_mul
theorem WX:type_of% @List.getElem?_eq_none:=@List.getElem?_eq_none
theorem WY:type_of% @Array.getElem?_eq_some_iff:=@Array.getElem?_eq_some_iff
theorem WZ:type_of% @List.getElem?_map:=@List.getElem?_map
theorem W0:type_of% @List.nodup_cons:=@List.nodup_cons
theorem W1:type_of% @Nat.add_zero:=@Nat.add_zero
theorem W2:type_of% @Array.getElem?_append_left:=@Array.getElem?_append_left
theorem W3:type_of% @Nat.lt_of_lt_of_le:=@Nat.lt_of_lt_of_le
theorem W4:type_of% @List.length_nil:=@List.length_nil
theorem W5:type_of% @List.drop_eq_getElem_cons:=@List.drop_eq_getElem_cons
theorem W6:type_of% @Nat.eq_zero_or_pos:=@Nat.eq_zero_or_pos
theorem W7:type_of% @List.mem_cons_self:=@List.mem_cons_self
theorem W8:type_of% @List.mem_of_mem_take:=@List.mem_of_mem_take
theorem W9:type_of% @List.getElem?_cons_succ:=@List.getElem?_cons_succ
theorem Ya:type_of% @Array.toList_map:=@Array.toList_map
theorem Yb:type_of% @Ne.symm:=@Ne.symm
theorem Yc:type_of% @Nat.le_trans:=@Nat.le_trans
theorem Yd:type_of% @Option.map_none:=@Option.map_none
theorem Ye:type_of% @List.length_singleton:=@List.length_singleton
theorem Yf:type_of% @List.length_drop:=@List.length_drop
theorem Yg:type_of% @Array.size_append:=@Array.size_append
theorem Yh:type_of% @List.cons.injEq:=@List.cons.injEq
theorem Yi:type_of% @List.getElem?_set_self:=@List.getElem?_set_self
theorem Yj:type_of% @Nat.add_assoc:=@Nat.add_assoc
theorem Yk:type_of% @List.take_take:=@List.take_take
theorem Yl:type_of% @List.getD_eq_getElem?_getD:=@List.getD_eq_getElem?_getD
theorem Ym:type_of% @List.take_left':=@List.take_left'
theorem Yn:type_of% @Nat.lt_or_ge:=@Nat.lt_or_ge
theorem Yo:type_of% @List.contains_eq_mem:=@List.contains_eq_mem
theorem Yp:type_of% @List.getElem?_take_of_lt:=@List.getElem?_take_of_lt
theorem Yq:type_of% @Array.getElem?_setIfInBounds_ne:=@Array.getElem?_setIfInBounds_ne
theorem Yr:type_of% @List.getElem_mem:=@List.getElem_mem
theorem Ys:type_of% @List.take_length:=@List.take_length
theorem Yt:type_of% @List.getElem?_drop:=@List.getElem?_drop
theorem Yu:type_of% @List.drop_eq_nil_of_le:=@List.drop_eq_nil_of_le
theorem Yv:type_of% @List.drop_of_length_le:=@List.drop_of_length_le
theorem Yw:type_of% @List.size_toArray:=@List.size_toArray
theorem Yx:type_of% @List.mem_of_mem_drop:=@List.mem_of_mem_drop
theorem Yy:type_of% @List.filter_cons:=@List.filter_cons
theorem Yz:type_of% @Option.some.inj:=@Option.some.inj
theorem YA:type_of% @Option.isSome_none:=@Option.isSome_none
theorem YB:type_of% @Nat.le_of_lt:=@Nat.le_of_lt
theorem YC:type_of% @Nat.zero_le:=@Nat.zero_le
theorem YD:type_of% @Nat.mul_pos:=@Nat.mul_pos
theorem YE:type_of% @Nat.le_of_eq:=@Nat.le_of_eq
end
section
inductive D where
 |lit (v:Value)
 |sl (cs:List D) (n:Nat) (full:Bool)
 |imm (cs:List D) (o:Nat)
 |agg (cs:List D)
 |iface (t:Nat) (d:D)
 deriving Inhabited
inductive V where
 |dat (d:D)
 |ptr (l o:Nat)
 |gsl (cs:List D) (n sz l:Nat)
 |msl (l o n cap sz:Nat)
 |own (l n sz:Nat)
 |eptr (l n o:Nat)
 |vw (l n o k sz:Nat)
 |rw (cs:List V) (n:Nat)
 |bm (g:Nat) (v:V)
 |agg (cs:List V)
 |fn (f:Nat) (first captured:List V)
 |mp (l:Nat)
 |iface (t:Nat) (v:V)
 |tup (vs:List V)
 |yld (l:Nat)
 |pan (v:V)
 deriving Inhabited
abbrev Fr:=List (Nat × V)
abbrev V.lit(v:Value):V := .dat (.lit v)
abbrev V.int(n:Int):V := .dat (.lit (.int .i64 n))
abbrev V.bool(b:Bool):V := .dat (.lit (.bool b))
abbrev V.str(s:ByteArray):V := .dat (.lit (.string s))
def Fr.get:Fr->Nat->Option V
 |[],_=>none
 | (k,v)::r,t=>if k=t then some v else Fr.get r t
def Fr.put(fr:Fr):Option Nat->V->Fr
 |none,_=>fr
 |some d,v=>(d,v)::fr
def Fr.keep(fr:Fr):List Nat->Fr
 |[]=>[]
 |k::ks=>match fr.get k with
  |some v=>(k,v)::Fr.keep fr ks
  |none=>Fr.keep fr ks
inductive X where
 |t (n:Nat)
 |c (v:Value)
 |f (id:Nat)
 |g (cs:List D)
 deriving Inhabited
def X.ev(fr:Fr):X->Option V
 |.t n=>fr.get n
 |.c v=>some (.dat (.lit v))
 |.f id=>some (.fn id [] [])
 |.g cs=>some (.dat (.imm cs 0))
def evs(fr:Fr):List X->Option (List V)
 |[]=>some []
 |x::r=>match x.ev fr,evs fr r with
  |some v,some vs=>some (v::vs)
  |_,_=>none
inductive CK where
 |int (k:IntKind)
 |intStr
 |strStr
 deriving Inhabited
inductive KD where
 |b|i|s
 deriving DecidableEq,Inhabited
inductive LK where
 |str|sl|mp
 deriving DecidableEq,Inhabited
inductive O where
 |mov (x:X)
 |pick (c a b:X)
 |alloc (zero:List D)
 |box (x:X)
 |build (zero:List D) (parts:List (Nat × Nat × X))
 |bslice (n:Nat) (zero:List D) (parts:List (Nat × Nat × X))
 |bsliceO (n sz:Nat) (zero:List D) (parts:List (Nat × Nat × X))
 |load (agg:Bool) (n:Nat) (a:X)
 |store (n:Nat) (a x:X)
 |nilchk (x:X)
 |bin (op:BinOp) (x y:X)
 |eqb (neg:Bool) (x y:X)
 |eqa (neg:Bool) (kds:List KD) (x y:X)
 |isnil (p neg:Bool) (x:X)
 |isnils (neg:Bool) (x:X)
 |mkif (t:Nat) (x:X)
 |mkmeth (tbl:List (Nat × Nat)) (x:X)
 |bytes (x:X)
 |un (op:UnOp) (x:X)
 |conv (k:CK) (x:X)
 |fieldAddr (off:Nat) (x:X)
 |field (agg:Bool) (off n:Nat) (x:X)
 |indexAddr (sz:Nat) (x i:X)
 |indexAddrA (len sz:Nat) (x i:X)
 |indexA (agg:Bool) (len sz:Nat) (x i:X)
 |indexS (x i:X)
 |slice (sz:Nat) (x:X) (lo hi:Option X)
 |sliceS (x:X) (lo hi:Option X)
 |len (k:LK) (x:X)
 |min (xs:List X)
 |max (xs:List X)
 |append (sz bytes:Nat) (s x:X)
 |appendO (sz bytes:Nat) (s x:X)
 |cut (sz:Nat) (x:X) (lo hi:Option X)
 |mkmap
 |mkslice (own:Bool) (zero:List D) (bytes:Nat) (len cap:X)
 |mapset (kd:KD) (m k v:X)
 |lookup (kd:KD) (zero:D) (m k:X) (ok:Bool)
 |mkfn (f:Nat) (first captured:List X)
 |extract (x:X) (i:Nat)
 |call (f:Nat) (args:List X)
 |callv (f:X) (args:List X)
 |invoke (tbl:List (Nat × Nat)) (x:X) (args:List X)
 |defer (f:X) (args:List X)
 |panic (x:X)
 |recov
 |boxT (t:Nat) (x:X)
 |appendT (t sz bytes:Nat) (s x:X)
 |up (x:X)
 |down (ts:List (Nat × Nat)) (x:X)
 |peq (neg:Bool) (x y:X)
 |usd (x:X)
 |ustr (ts:List Nat) (x n:X)
 |bstr (x:X)
 |sliceA (len sz:Nat) (x:X) (lo hi:Option X)
 |slice3 (sz:Nat) (x:X) (lo hi:Option X) (mx:X)
 |copy (sz:Nat) (x y:X)
 |clr (zero:List D) (x:X)
 |mkmapH (x:X)
 |cap0 (x:X)
 |appendZ (zero:List D) (bytes:Nat) (s n:X)
 |mapdel (kd:KD) (m k:X)
 |mrange (x:X)
 |mnext (x:X)
 |bad
 |idxb (s c:X)
 |fill (k:Nat)
 deriving Inhabited
structure I where
 dst:Option Nat
 op:O
 guard:Option (Nat × Bool)
 un:List Nat:=[]
 deriving Inhabited
inductive PC where
 |skip
 |region (draw:Option (List (Nat × List D))) (ops:List I) (keep:List Nat) (lasts:List Nat:=[])
 |seq (a b:PC)
 |cond (c:X) (a b:PC)
 |block (id:Nat) (b:PC)
 |loop (b:PC)
 |exit (id:Nat)
 |ret
 |range (f:X) (ps:List Nat) (assign body:PC)
 deriving Inhabited
inductive Ex where
 |normal
 |exit (id:Nat)
 |ret
 |pan (v:V)
 deriving Inhabited
structure Lp where
 fr:Fr
 ps:List Nat
 assign:PC
 body:PC
 st:Nat
 pend:Option Ex
 deriving Inhabited
inductive Ob where
 |cells (cs:List V)
 |map (es:List (Value × V))
 |tip (n:Nat)
 |loop (lp:Lp)
 |vec (cs:List V)
 |cellsT (t:Nat) (cs:List V)
 |vecT (t:Nat) (cs:List V)
 |froz (cs:List D)
 |dead
 |iter (l:Nat)
 deriving Inhabited
abbrev S:=List Ob
inductive PR where
 |tmp (t:Nat)
 |cell (t:Nat) (agg:Bool) (n:Nat)
 deriving Inhabited
structure PFun where
 np:Nat
 results:List PR
 body:PC
 noseal:Bool:=false
 df:Bool:=false
 catches:Bool:=false
 fz:Bool:=false
 deriving Inhabited
inductive Task where
 |call (f:Nat) (args:List V) (σ : S)
 |dcall (f:Nat) (args:List V) (σ : S)
 |loop (k:Nat) (body:PC) (fr:Fr) (σ : S)
 |round (args:List V) (σ : S)
 deriving Inhabited
inductive Res where
 |ret (v:V) (σ : S)
 |out (e:Ex) (fr:Fr) (σ : S)
 deriving Inhabited
def qaI:List V->Option (List D)
 |[]=>some []
 |.dat d::r=>match qaI r with
  |some ds=>some (d::ds)
  |none=>none
 |_::_=>none
def V.cells:V->List V
 |.dat (.agg cs)=>cs.map .dat
 |.agg cs=>cs
 |v=>[v]
def V.aggCells:V->Option (List V)
 |.dat (.agg cs)=>some (cs.map .dat)
 |.agg cs=>some cs
 |_=>none
def V.one:V->Bool
 |.dat (.lit v)=>v.oneCell'
 |.dat (.agg _)=>false
 |.agg _=>false
 |.tup _=>false
 |_=>true
def qc6(vs:List V):V:=
 match qaI vs with
 |some ds => .dat (.agg ds)
 |none => .agg vs
mutual
def V.locs:V->List Nat
 |.dat _=>[]
 |.ptr l _=>[l]
 |.gsl _ _ _ l=>[l]
 |.msl l _ _ _ _=>[l]
 |.own l _ _=>[l]
 |.eptr l _ _=>[l]
 |.vw l _ _ _ _=>[l]
 |.rw cs _=>qau cs
 |.bm _ v=>v.locs
 |.agg cs=>qau cs
 |.fn _ a b=>qau a++qau b
 |.mp l=>[l]
 |.iface _ v=>v.locs
 |.tup vs=>qau vs
 |.yld l=>[l]
 |.pan v=>v.locs
def qau:List V->List Nat
 |[]=>[]
 |v::r=>v.locs++qau r
end
mutual
def V.ren(r:Nat->Nat):V->V
 |.dat d => .dat d
 |.ptr l o => .ptr (r l) o
 |.gsl cs n sz l => .gsl cs n sz (r l)
 |.msl l o n cap sz => .msl (r l) o n cap sz
 |.own l n sz => .own (r l) n sz
 |.eptr l n o => .eptr (r l) n o
 |.vw l n o k sz => .vw (r l) n o k sz
 |.rw cs n => .rw (qbl r cs) n
 |.bm g v => .bm g (v.ren r)
 |.agg cs => .agg (qbl r cs)
 |.fn f a b => .fn f (qbl r a) (qbl r b)
 |.mp l => .mp (r l)
 |.iface t v => .iface t (v.ren r)
 |.tup vs => .tup (qbl r vs)
 |.yld l => .yld (r l)
 |.pan v => .pan (v.ren r)
def qbl(r:Nat->Nat):List V->List V
 |[]=>[]
 |v::vs=>v.ren r::qbl r vs
end
def qc7:List (Value × V)->List Nat
 |[]=>[]
 | (_,v)::r=>v.locs++qc7 r
def qjW(r:Nat->Nat):List (Value × V)->List (Value × V)
 |[]=>[]
 | (k,v)::es=>(k,v.ren r)::qjW r es
def qaR:Fr->List Nat
 |[]=>[]
 | (_,v)::r=>v.locs++qaR r
def qd8(r:Nat->Nat):Fr->Fr
 |[]=>[]
 | (k,v)::es=>(k,v.ren r)::qd8 r es
def Ob.locs:Ob->List Nat
 |.cells cs=>qau cs
 |.map es=>qc7 es
 |.tip _=>[]
 |.loop lp=>qaR lp.fr
 |.vec cs=>qau cs
 |.cellsT _ cs=>qau cs
 |.vecT _ cs=>qau cs
 |.froz _=>[]
 |.dead=>[]
 |.iter l=>[l]
def Ob.ren(r:Nat->Nat):Ob->Ob
 |.cells cs => .cells (qbl r cs)
 |.map es => .map (qjW r es)
 |.tip n => .tip n
 |.loop lp => .loop { lp with fr:=qd8 r lp.fr }
 |.vec cs => .vec (qbl r cs)
 |.cellsT t cs => .cellsT t (qbl r cs)
 |.vecT t cs => .vecT t (qbl r cs)
 |.froz cs => .froz cs
 |.dead => .dead
 |.iter l => .iter (r l)
def V.sealv:V->V
 |.gsl cs n _ _ => .dat (.sl cs n false)
 |v=>v
def qdQ:List V->List V
 |[]=>[]
 |v::r=>v.sealv::qdQ r
def V.sealT:V->V
 |.agg cs=>qc6 (qdQ cs)
 |v=>v.sealv
def qh0:List V->List V
 |[]=>[]
 |v::r=>v.sealT::qh0 r
def Ob.rows:Ob->Option (List V)
 |.vec cs=>some cs
 |.vecT _ cs=>some cs
 |.froz ds=>some (ds.map .dat)
 |_=>none
def qi1(σ : S):V->V × S
 |.own l n sz=>match σ[l]? with
  |some (.vec cs)=>if cs.length=n*sz then (match qaI cs with
   |some ds=>(.dat (.sl ds n false),σ.set l (.froz ds))
   |none=>(.own l n sz,σ)) else (.own l n sz,σ)
  |some (.froz ds)=>if ds.length=n*sz then (.dat (.sl ds n false),σ) else (.own l n sz,σ)
  |_=>(.own l n sz,σ)
 |.gsl cs n _ _=>(.dat (.sl cs n false),σ)
 |v=>(v,σ)
def qnc(σ : S):List V->List V × S
 |[]=>([],σ)
 |v::r=>((qi1 σ v).1::(qnc (qi1 σ v).2 r).1,(qnc (qi1 σ v).2 r).2)
def qoS(σ : S):V->V × S
 |.agg cs=>(qc6 (qnc σ cs).1,(qnc σ cs).2)
 |v=>qi1 σ v
def qh1(σ : S):List V->List V × S
 |[]=>([],σ)
 |v::r=>((qoS σ v).1::(qh1 (qoS σ v).2 r).1,(qh1 (qoS σ v).2 r).2)
def outV(z:Bool)(k:Nat)(σ : S):V->V × List Nat
 |.ptr l o=>if z=true/\k<=l then (match σ[l]? with
  |some (.cells cs)=>match qaI (qdQ cs) with
   |some ds=>if (ds.all fun d=>V.one (.dat d))=true then (.dat (.imm ds o),[l]) else (.ptr l o,[])
   |none=>(.ptr l o,[])
  |_=>(.ptr l o,[])) else (.ptr l o,[])
 |.own l n sz=>if k<=l then (match σ[l]? with
  |some (.vec cs)=>if cs.length=n*sz then (match qaI cs with
   |some ds=>(.dat (.sl ds n false),[l])
   |none=>(.own l n sz,[])) else (.own l n sz,[])
  |some (.froz ds)=>if ds.length=n*sz then (.dat (.sl ds n false),[]) else (.own l n sz,[])
  |_=>(.own l n sz,[])) else (.own l n sz,[])
 |.msl l o n cap sz=>if k<=l then (match σ[l]? with
  |some (.cells cs)=>match qaI cs with
   |some ds=>if o+n*sz<=ds.length/\(ds.all fun d=>V.one (.dat d))=true then (.dat (.sl ((ds.drop o).take (n*sz)) n false),[l]) else (.msl l o n cap sz,[])
   |none=>(.msl l o n cap sz,[])
  |_=>(.msl l o n cap sz,[])) else (.msl l o n cap sz,[])
 |.gsl cs n _ _=>(.dat (.sl cs n false),[])
 |v=>(v,[])
def qiC(z:Bool)(k:Nat)(σ : S):List V->List V × List Nat
 |[]=>([],[])
 |v::r=>((outV z k σ v).1::(qiC z k σ r).1,(outV z k σ v).2++(qiC z k σ r).2)
def qre(z:Bool)(k:Nat)(σ : S):V->V × List Nat
 |.agg cs=>(qc6 (qiC z k σ cs).1,(qiC z k σ cs).2)
 |v=>outV z k σ v
def qc8(z:Bool)(k:Nat)(σ : S):List V->List V × List Nat
 |[]=>([],[])
 |v::r=>((qre z k σ v).1::(qc8 z k σ r).1,(qre z k σ v).2++(qc8 z k σ r).2)
def qbU{α : Type}:Nat->List α -> List α
 |0,_=>[]
 |n+1,l=>l++qbU n l
def qbT(f:Nat)(vs:List V)(σ : S):List V × S:=if f<1000 then qh1 σ vs else (vs,σ)
def qsO(σ : S)(nx:List Nat->List Nat->List Nat):List Nat->List Nat->List Nat
 |[],seen=>seen
 |l::todo,seen=>if seen.contains l then qsO σ nx todo seen
  else nx (todo++(match σ[l]? with|some ob=>ob.locs|none=>[])) (seen++[l])
def reach(σ : S):Nat->List Nat->List Nat->List Nat
 |0=>fun _ seen=>seen
 |n+1=>qsO σ (reach σ n)
theorem qi2(σ : S)(todo seen:List Nat):reach σ 0 todo seen=seen:=rfl
theorem qeM(σ : S)(n:Nat)(seen:List Nat):reach σ n [] seen=seen:=by cases n<;>rfl
theorem qi3 (σ : S) (n l:Nat) (todo seen:List Nat):reach σ (n+1) (l::todo) seen=if seen.contains l then reach σ (n+1) todo seen
  else reach σ n (todo++(match σ[l]? with|some ob=>ob.locs|none=>[])) (seen++[l]):=rfl
def idx:List Nat->Nat->Nat
 |[],_=>0
 |k::ks,l=>if k=l then 0 else idx ks l+1
def qeN:List Nat->Bool
 |[]=>true
 |k::ks => !ks.contains k&&qeN ks
def inL(L:List Nat):List Nat->Bool
 |[]=>true
 |k::ks=>L.contains k&&inL L ks
def qc9(σ : S):List Nat->Option (List Ob)
 |[]=>some []
 |l::ls=>match σ[l]?,qc9 σ ls with
  |some ob,some obs=>some (ob::obs)
  |_,_=>none
def closed(L:List Nat):List Ob->Bool
 |[]=>true
 |ob::r=>inL L ob.locs&&closed L r
def qaO(L:List Nat)(vs:List V)(σ : S):Option (List V × S):=
 match qc9 σ L with
 |some obs=>if qeN L&&(inL L (qau vs)&&closed L obs) then some (qbl (idx L) vs,obs.map (Ob.ren (idx L))) else none
 |none=>none
def back(L:List Nat)(n:Nat)(i:Nat):Nat:=
 match L[i]? with
 |some l=>l
 |none=>n+(i-L.length)
def qaF(σ : S):List Nat->List Ob->S
 |l::ls,ob::obs=>qaF (σ.set l ob) ls obs
 |_,obs => σ ++ obs
def qaE(C:Task->Option Res)(mk:List V->S->Task)(args:List V)(σ : S):Option (V × S):=
 let L:=reach σ σ.length (qau args) []
 match qaO L args σ with
 |some (args',σs)=>
  match C (mk args' σs) with
  |some (.ret (.pan _) _)=>none
  |some (.ret v σs')=>some (v.ren (back L σ.length),qaF σ L (σs'.map (Ob.ren (back L σ.length))))
  |_=>none
 |none=>none
def qbF(C:Task->Option Res)(mk:List V->S->Task)(args:List V)(σ : S):Option (V × S):=
 let L:=reach σ σ.length (qau args) []
 match qaO L args σ with
 |some (args',σs)=>
  match C (mk args' σs) with
  |some (.ret (.pan v) σs')=>some (v.ren (back L σ.length),qaF σ L (σs'.map (Ob.ren (back L σ.length))))
  |_=>none
 |none=>none
def dkey:Nat:=1000000
def qjX:Nat:=1000001
def Fr.defs(fr:Fr):List V:=match fr.get dkey with
 |some (.tup l)=>l
 |_=>[]
def Fr.noD(fr:Fr):Fr:=fr.filter fun p=>p.1 != dkey
def eqS(a b:ByteArray):Bool:=a.toList==b.toList
def eqI(a b:Int):Bool:=a==b
def qtP(k:IntKind)(op:BitVec k.bits->BitVec k.bits->BitVec k.bits)(a b:Int):Int:=k.wrap (op (BitVec.ofInt k.bits a) (BitVec.ofInt k.bits b)).toNat
def qye(k:IntKind)(a b:Int):Int:=k.wrap (a*2 ^ min b.toNat k.bits)
def qyf(k:IntKind)(a b:Int):Int:=a.fdiv (2 ^ min b.toNat k.bits)
def qrf:BinOp->Value->Value->Option Value
 |op,.int k a,.int k' b=>
  if k=k' then
   match op with
   |.add=>some (.int k (k.wrap (a+b)))
   |.sub=>some (.int k (k.wrap (a-b)))
   |.mul=>some (.int k (k.wrap (a*b)))
   |.quo=>if b=0 then none else some (.int k (k.wrap (a.tdiv b)))
   |.rem=>if b=0 then none else some (.int k (a.tmod b))
   |.eql=>some (.bool (eqI a b))
   |.neq=>some (.bool (!eqI a b))
   |.lss=>some (.bool (a<b))
   |.leq=>some (.bool (a<=b))
   |.gtr=>some (.bool (a > b))
   |.geq=>some (.bool (a≥b))
   |.and=>some (.int k (qtP k (· &&& ·) a b))
   |.or=>some (.int k (qtP k (· ||| ·) a b))
   |.xor=>some (.int k (qtP k (· ^^^ ·) a b))
   |.andNot=>some (.int k (qtP k (fun x y=>x &&& ~~~y) a b))
   |.shl=>if b<0 then none else some (.int k (qye k a b))
   |.shr=>if b<0 then none else some (.int k (qyf k a b))
  else match op with
   |.shl=>if b<0 then none else some (.int k (qye k a b))
   |.shr=>if b<0 then none else some (.int k (qyf k a b))
   |_=>none
 |op,.string a,.string b=>
  match op with
  |.add=>if ((a.size+b.size:Nat):Int) > IntKind.i64.max then none else some (.string (a++b))
  |.eql=>some (.bool (eqS a b))
  |.neq=>some (.bool (!eqS a b))
  |.lss=>some (.bool (Op.bytesLess a.toList b.toList))
  |.leq=>some (.bool (Op.bytesLess a.toList b.toList||a.toList==b.toList))
  |.gtr=>some (.bool (!(Op.bytesLess a.toList b.toList||a.toList==b.toList)))
  |.geq=>some (.bool (!Op.bytesLess a.toList b.toList))
  |_=>none
 |_,_,_=>none
def qvm:Bool->V->Option Bool
 |true,.ptr _ _=>some false
 |true,.dat (.imm _ _)=>some false
 |true,.dat (.lit (.pointer none))=>some true
 |false,.iface _ _=>some false
 |false,.dat (.lit .nilIface)=>some true
 |_,_=>none
def qrG:V->Option Bool
 |.dat (.lit (.slice a _ _))=>some a.isNone
 |.dat (.sl _ _ _) | .gsl _ _ _ _ | .msl _ _ _ _ _ | .own _ _ _ | .vw _ _ _ _ _=>some false
 |_=>none
def qoq:KD->Value->Value->Option Bool
 |.i,.int k a,.int k' b=>if k=k' then some (eqI a b) else none
 |.s,.string a,.string b=>some (eqS a b)
 |.b,.bool a,.bool b=>some (a==b)
 |_,_,_=>none
def qfk:List KD->List D->List D->Option Bool
 |[],[],[]=>some true
 |k::ks,.lit a::as,.lit b::bs=>match qoq k a b,qfk ks as bs with
  |some x,some y=>some (x&&y)
  |_,_=>none
 |_,_,_=>none
def qeO(s:ByteArray):List D:=s.data.toList.map fun b => .lit (.int .u8 b.toNat)
def unV:UnOp->Value->Option Value
 |.neg,.int k n=>some (.int k (k.wrap (0-n)))
 |.not,.bool b=>some (.bool !b)
 |.xor,.int k n=>some (.int k (qtP k (· ^^^ ·) (if k.signed then -1 else k.max) n))
 |_,_=>none
def qpK:CK->Value->Option Value
 |.int k,.int _ n=>some (.int k (k.wrap n))
 |.intStr,.int _ n=>some (.string (Utf8.encode n))
 |.strStr,.string s=>some (.string s)
 |_,_=>none
def V.len(σ : S):LK->V->Option Int
 |.sl,.dat (.lit (.slice _ n _))=>some n
 |.str,.dat (.lit (.string s))=>some s.size
 |.sl,.dat (.sl _ n _)=>some n
 |.sl,.gsl _ n _ _=>some n
 |.sl,.msl _ _ n _ _=>some n
 |.sl,.own _ n _=>some n
 |.sl,.vw _ _ _ k _=>some k
 |.mp,.mp l=>match σ[l]? with
  |some (.map es)=>some es.length
  |_=>none
 |_,_=>none
def qdu:List V->List (Nat × Nat × V)->Option (List V)
 |cs,[]=>some cs
 |cs,(off,size,v)::r=>
  let new:=v.cells
  if new.length=size/\off+size<=cs.length/\new.all V.one then qdu (cs.take off++(new++cs.drop (off+size))) r else none
def qcf(fr:Fr):List (Nat × Nat × X)->Option (List (Nat × Nat × V))
 |[]=>some []
 | (o,s,x)::r=>match x.ev fr,qcf fr r with
  |some v,some vs=>some ((o,s,v)::vs)
  |_,_=>none
def qad{α : Type}(cs:List α)(o n:Nat):Option (List α):=
 let r:=(cs.drop o).take n
 if r.length=n then some r else none
def qbV(agg:Bool)(vs:List V):Option V:=
 if agg then some (qc6 vs) else match vs with
  |[v]=>some v
  |_=>none
def qvn(agg:Bool)(ds:List D):Option V:=
 if agg then some (.dat (.agg ds)) else match ds with
  |[d]=>some (.dat d)
  |_=>none
def qco(σ : S)(agg:Bool)(n:Nat):V->Option V
 |.ptr l o=>match σ[l]? with
  |some (.cells cs)=>match qad cs o n with
   |some vs=>qbV agg vs
   |none=>none
  |some (.cellsT _ cs)=>match qad cs o n with
   |some vs=>qbV agg vs
   |none=>none
  |_=>none
 |.dat (.imm cs o)=>match qad cs o n with
  |some ds=>qvn agg ds
  |none=>none
 |.eptr l m o=>match σ[l]? with
  |some (.vec cs)=>if cs.length=m then (match qad cs o n with
   |some vs=>qbV agg vs
   |none=>none) else none
  |some (.froz ds)=>if ds.length=m then (match qad ds o n with
   |some vs=>qvn agg vs
   |none=>none) else none
  |_=>none
 |_=>none
def storeV(σ : S)(n:Nat):V->V->Option S
 |.ptr l o,v=>match σ[l]? with
  |some (.cells cs)=>
   let new:=v.cells
   if new.length=n/\o+n<=cs.length/\new.all V.one then some (σ.set l (.cells (cs.take o++(new++cs.drop (o+n))))) else none
  |some (.cellsT t cs)=>
   let new:=v.cells
   if new.length=n/\o+n<=cs.length/\new.all V.one then some (σ.set l (.cellsT t (cs.take o++(new++cs.drop (o+n))))) else none
  |_=>none
 |.eptr l m o,v=>match σ[l]? with
  |some (.vec cs)=>
   let new:=v.cells
   if cs.length=m/\new.length=n/\o+n<=cs.length/\new.all V.one then some (σ.set l (.vec (cs.take o++(new++cs.drop (o+n))))) else none
  |_=>none
 |_,_=>none
def qcJ(k:Nat):V->Option V
 |.ptr l o=>some (.ptr l (o+k))
 |.dat (.imm cs o)=>some (.dat (.imm cs (o+k)))
 |.eptr l n o=>some (.eptr l n (o+k))
 |_=>none
def qai(sz:Nat):V->Int->Option V
 |.dat (.sl cs n _),i=>if 0<=i/\i<n then some (.dat (.imm cs (i.toNat*sz))) else none
 |.gsl cs n _ _,i=>if 0<=i/\i<n then some (.dat (.imm cs (i.toNat*sz))) else none
 |.msl l o n _ _,i=>if 0<=i/\i<n then some (.ptr l (o+i.toNat*sz)) else none
 |.own l n sz',i=>if 0<=i/\i<n/\sz'=sz then some (.eptr l (n*sz) (i.toNat*sz)) else none
 |.vw l n o k sz',i=>if 0<=i/\i<k/\sz'=sz then some (.eptr l n (o+i.toNat*sz)) else none
 |_,_=>none
def bound(x:Option V)(d most:Nat):Option Nat:=
 match x with
 |none=>some d
 |some (.dat (.lit (.int _ i)))=>if 0<=i/\i<=most then some i.toNat else none
 |_=>none
def qcL(sz:Nat)(lo hi:Option V):V->Option V
 |.dat (.lit (.slice a 0 0))=>
  match bound hi 0 0 with
  |some h=>match bound lo 0 h with
   |some _=>some (.dat (.lit (.slice a 0 0)))
   |none=>none
  |none=>none
 |.dat (.sl cs n _)=>
  match bound hi n n with
  |some h=>match bound lo 0 h with
   |some l=>if cs.length=n*sz then some (.dat (.sl ((cs.drop (l*sz)).take ((h-l)*sz)) (h-l) false)) else none
   |none=>none
  |none=>none
 |.gsl cs n _ _=>
  match bound hi n n with
  |some h=>match bound lo 0 h with
   |some l=>if cs.length=n*sz then some (.dat (.sl ((cs.drop (l*sz)).take ((h-l)*sz)) (h-l) false)) else none
   |none=>none
  |none=>none
 |.msl l o n cap sz'=>
  match bound hi n n with
  |some h=>match bound lo 0 h with
   |some k=>if sz'=sz then some (.msl l (if cap=k then o else o+k*sz) (h-k) (cap-k) sz) else none
   |none=>none
  |none=>none
 |.vw l n o k sz'=>
  match bound hi k k with
  |some h=>match bound lo 0 h with
   |some j=>if sz'=sz then some (.vw l n (o+j*sz) (h-j) sz) else none
   |none=>none
  |none=>none
 |_=>none
def qvo(σ : S)(sz:Nat)(lo hi:Option V):V->Option (V × S)
 |.own l n sz'=>match σ[l]? with
  |some (.vec cs)=>if lo.isSome then (match bound hi n n with
   |some h=>match bound lo 0 h with
    |some j=>if sz'=sz/\cs.length=n*sz then some (.vw l (n*sz) (j*sz) (h-j) sz,σ) else none
    |none=>none
   |none=>none) else match bound hi n n with
   |some h=>match bound lo 0 h with
    |some 0=>if sz'=sz/\cs.length=n*sz then some (.own σ.length h sz,σ.set l .dead++[.vec (cs.take (h*sz))]) else none
    |_=>none
   |none=>none
  |_=>none
 |v=>match qcL sz lo hi v with
  |some u=>some (u,σ)
  |none=>none
def qjY(lo hi:Option V):V->Option V
 |.dat (.lit (.string s))=>
  match bound hi s.size s.size with
  |some h=>match bound lo 0 h with
   |some l=>some (.dat (.lit (.string (s.extract l h))))
   |none=>none
  |none=>none
 |_=>none
def qlj:V->Option (List D × Nat)
 |.dat (.lit (.slice _ 0 0))=>some ([],0)
 |.dat (.sl cs n _)=>some (cs,n)
 |.gsl cs n _ _=>some (cs,n)
 |.dat (.lit (.string s))=>some (qeO s,s.size)
 |_=>none
def qor(σ : S):V->Option (List V × Nat)
 |.dat (.lit (.slice _ 0 0))=>some ([],0)
 |.dat (.sl cs n _)=>some (cs.map .dat,n)
 |.gsl cs n _ _=>some (cs.map .dat,n)
 |.dat (.lit (.string s))=>some ((qeO s).map .dat,s.size)
 |.own l n sz=>match σ[l]? with
  |some (.vec cs)=>if cs.length=n*sz then some (cs,n) else none
  |some (.froz ds)=>if ds.length=n*sz then some (ds.map .dat,n) else none
  |_=>none
 |.msl l o n _ sz=>match σ[l]? with
  |some (.cells cs)=>if o+n*sz<=cs.length then some ((cs.drop o).take (n*sz),n) else none
  |_=>none
 |.vw l n o k sz=>match σ[l]? with
  |some (.vec cs)=>if cs.length=n/\o+k*sz<=n then some ((cs.drop o).take (k*sz),k) else none
  |_=>none
 |.rw cs n=>some (cs,n)
 |_=>none
def qaA(n bytes:Nat):Bool:=(2*n+192)*(bytes+1)<=2 ^ 48
def qbs(σ : S)(sz bytes:Nat)(s x:V):Option (V × S):=
 match qlj x with
 |none=>none
 |some (xs,m)=>
  if xs.length=m*sz/\0<sz then
   if m=0 then (match s with
    |.dat (.lit (.slice none 0 0)) | .dat (.sl _ _ _) | .gsl _ _ _ _=>some (s,σ)
    |_=>none)
   else match s with
    |.dat (.lit (.slice none 0 0))=>if qaA m bytes then some (.gsl xs m sz σ.length,σ ++ [.tip xs.length]) else none
    |.dat (.sl cs n true)=>
     if qaA (n+m) bytes/\cs.length=n*sz then some (.gsl (cs++xs) (n+m) sz σ.length,σ ++ [.tip (cs++xs).length]) else none
    |.gsl cs n sz' l=>
     match σ[l]? with
     |some (.tip k)=>
      if qaA (n+m) bytes/\cs.length=n*sz/\sz'=sz/\k=cs.length then
       some (.gsl (cs++xs) (n+m) sz l,σ.set l (.tip (cs++xs).length)) else none
     |_=>none
    |_=>none
  else none
def appendO(σ : S)(sz bytes:Nat)(s x:V):Option (V × S):=
 match qor σ x with
 |none=>none
 |some (xs,m)=>
  if xs.length=m*sz/\0<sz/\xs.all V.one=true then
   if m=0 then (match s with
    |.dat (.lit (.slice none 0 0)) | .dat (.sl _ _ _) | .own _ _ _ | .vw _ _ _ _ _=>some (s,σ)
    |_=>none)
   else match s with
    |.dat (.lit (.slice none 0 0))=>if qaA m bytes then some (.own σ.length m sz,σ ++ [.vec xs]) else none
    |.dat (.sl cs n true)=>
     if qaA (n+m) bytes/\cs.length=n*sz then some (.own σ.length (n+m) sz,σ ++ [.vec (cs.map .dat++xs)]) else none
    |.vw l n o k sz'=>
     match σ[l]? with
     |some (.vec cs)=>
      if qaA (k+m) bytes/\cs.length=n/\sz'=sz/\o+k*sz=n then
       some (.own σ.length (k+m) sz,σ.set l .dead++[.vec (cs.drop o++xs)]) else none
     |_=>none
    |.own l n sz'=>
     match σ[l]? with
     |some (.vec cs)=>
      if qaA (n+m) bytes/\cs.length=n*sz/\sz'=sz then
       some (.own l (n+m) sz,σ.set l (.vec (cs++xs))) else none
     |_=>none
    |_=>none
  else none
def appendT(σ : S)(t sz bytes:Nat)(s x:V):Option (V × S):=
 match qor σ x with
 |none=>none
 |some (xs,m)=>
  if xs.length=m*sz/\0<sz/\xs.all V.one=true then
   if m=0 then (match s with
    |.dat (.lit (.slice none 0 0)) | .dat (.sl _ _ _) | .own _ _ _=>some (s,σ)
    |_=>none)
   else match s with
    |.dat (.lit (.slice none 0 0))=>if qaA m bytes then some (.own σ.length m sz,σ ++ [.vecT t xs]) else none
    |.own l n sz'=>
     match σ[l]? with
     |some (.vecT t' cs)=>
      if qaA (n+m) bytes/\cs.length=n*sz/\sz'=sz/\t'=t then
       some (.own l (n+m) sz,σ.set l (.vecT t (cs++xs))) else none
     |_=>none
    |_=>none
  else none
def qd9:List V->Option (List UInt8)
 |[]=>some []
 |.dat (.lit (.int .u8 n))::r=>if 0<=n/\n<256 then (match qd9 r with
  |some bs=>some (UInt8.ofNat n.toNat::bs)
  |none=>none) else none
 |_=>none
def V.isStr:V->Bool
 |.dat (.lit (.string _))=>true
 |_=>false
def qpL(σ : S)(v:V):Option V:=match qor σ v with
 |some (xs,m)=>if xs.length=m/\v.isStr=false then (match qd9 xs with
  |some bs=>some (.str ⟨bs.toArray⟩)
  |none=>none) else none
 |none=>none
def qh2(len sz:Nat)(lo hi:Option V):V->Option V
 |.ptr l o=>match bound hi len len with
  |some h=>match bound lo 0 h with
   |some k=>some (.msl l (if len=k then o else o+k*sz) (h-k) (len-k) sz)
   |none=>none
  |none=>none
 |_=>none
def qos:KD->Value->Bool
 |.s,.string _ | .i,.int _ _ | .b,.bool _=>true
 |_,_=>false
def qdv:KD->Value->Value->Option Bool
 |.i,.int k a,.int k' b=>if k=k' then some (a==b) else none
 |.s,.string a,.string b=>some (a==b)
 |.b,.bool a,.bool b=>some (a==b)
 |_,_,_=>none
def qmw(kd:KD)(k:Value):List (Value × V)->Option (Option V)
 |[]=>some none
 | (k',v)::r=>match qdv kd k k' with
  |some true=>some (some v)
  |some false=>qmw kd k r
  |none=>none
def qtQ(kd:KD)(k:Value)(v:V):List (Value × V)->Option (List (Value × V))
 |[]=>some [(k,v)]
 | (k',v')::r=>match qdv kd k k' with
  |some true=>some ((k,v)::r)
  |some false=>match qtQ kd k v r with
   |some r'=>some ((k',v')::r')
   |none=>none
  |none=>none
def qpM:Value->List Value->Option Value
 |x,[]=>some x
 |.int k x,.int _ y::r=>qpM (.int k (if y<x then y else x)) r
 |_,_=>none
def qpN:Value->List Value->Option Value
 |x,[]=>some x
 |.int k x,.int _ y::r=>qpN (.int k (if x<y then y else x)) r
 |_,_=>none
def qmx:List V->Option (List Value)
 |[]=>some []
 |.dat (.lit v)::r=>match qmx r with
  |some vs=>some (v::vs)
  |none=>none
 |_=>none
def qci(fr:Fr):Option X->Option (Option V)
 |none=>some none
 |some x=>match x.ev fr with
  |some v=>some (some v)
  |none=>none
def qzj(σ : S)(sz l h:Nat):V->Option V
 |.dat (.lit (.slice none 0 0))=>some (.dat (.lit (.slice none 0 0)))
 |.dat (.sl cs n _)=>if cs.length=n*sz then some (.dat (.sl ((cs.drop (l*sz)).take ((h-l)*sz)) (h-l) true)) else none
 |.gsl cs n _ _=>if cs.length=n*sz then some (.dat (.sl ((cs.drop (l*sz)).take ((h-l)*sz)) (h-l) true)) else none
 |.own a n z=>match σ[a]? with
  |some (.vec cs)=>if cs.length=n*z/\l=h then some (.dat (.sl [] 0 true)) else none
  |_=>none
 |.msl _ _ _ _ _=>if l=h then some (.dat (.sl [] 0 true)) else none
 |_=>none
def qjZ(σ : S)(sz:Nat)(lo:Option V)(hi mx v:V):Option V:=
 match v.len σ .sl with
 |some n=>match bound (some hi) n.toNat n.toNat,bound (some mx) n.toNat n.toNat with
  |some h,some h'=>match bound lo 0 h with
   |some l=>if h=h' then qzj σ sz l h v else none
   |none=>none
  |_,_=>none
 |none=>none
def qrg(σ : S)(xs:List V):V->Option S
 |.dat (.lit (.slice none 0 0))=>if xs.length=0 then some σ else none
 |.dat (.sl _ _ _)=>if xs.length=0 then some σ else none
 |.msl l o n _ sz=>match σ[l]? with
  |some (.cells cs)=>if xs.length<=n*sz/\o+n*sz<=cs.length/\xs.all V.one then some (σ.set l (.cells (cs.take o++(xs++cs.drop (o+xs.length))))) else none
  |_=>none
 |.own l n sz=>match σ[l]? with
  |some (.vec cs)=>if xs.length<=n*sz/\cs.length=n*sz/\xs.all V.one then some (σ.set l (.vec (xs++cs.drop xs.length))) else none
  |_=>none
 |.vw l n o k sz=>match σ[l]? with
  |some (.vec cs)=>if xs.length<=k*sz/\cs.length=n/\o+k*sz<=n/\xs.all V.one then some (σ.set l (.vec (cs.take o++(xs++cs.drop (o+xs.length))))) else none
  |_=>none
 |_=>none
def qtR(kd:KD)(k:Value):List (Value × V)->Option (List (Value × V))
 |[]=>some []
 | (k',v')::r=>match qdv kd k k' with
  |some true=>some r
  |some false=>match qtR kd k r with
   |some r'=>some ((k',v')::r')
   |none=>none
  |none=>none
def qar(C:Task->Option Res)(fr:Fr)(σ : S):O->Option (V × S)
 |.mov x=>match x.ev fr with
  |some v=>some (v,σ)
  |none=>none
 |.pick c a b=>match c.ev fr with
  |some (.dat (.lit (.bool true)))=>(match a.ev fr with|some v=>some (v,σ) | none=>none)
  |some (.dat (.lit (.bool false)))=>(match b.ev fr with|some v=>some (v,σ) | none=>none)
  |_=>none
 |.alloc zero=>some (.ptr σ.length 0,σ ++ [.cells (zero.map .dat)])
 |.box x=>match x.ev fr with
  |some v=>if v.cells.all V.one then some (.ptr σ.length 0,σ ++ [.cells v.cells]) else none
  |none=>none
 |.build zero parts=>match qcf fr parts with
  |some ps=>match qdu (zero.map .dat) ps with
   |some cs=>some (qc6 cs,σ)
   |none=>none
  |none=>none
 |.bslice n zero parts=>match qcf fr parts with
  |some ps=>match qdu (zero.map .dat) ps with
   |some cs=>match qaI (qdQ cs) with
    |some ds=>some (.dat (.sl ds n true),σ)
    |none=>some (.rw (qdQ cs) n,σ)
   |none=>none
  |none=>none
 |.bsliceO n sz zero parts=>match qcf fr parts with
  |some ps=>match qdu (zero.map .dat) ps with
   |some cs=>match qaI cs with
    |some _=>some (.own σ.length n sz,σ ++ [.vec cs])
    |none=>none
   |none=>none
  |none=>none
 |.load agg n a=>match a.ev fr with
  |some p=>match qco σ agg n p with
   |some v=>some (v,σ)
   |none=>none
  |none=>none
 |.store n a x=>match a.ev fr,x.ev fr with
  |some p,some v=>match storeV σ n p v with
   |some σ'=>some (.dat (.lit undef),σ')
   |none=>none
  |_,_=>none
 |.nilchk x=>match x.ev fr with
  |some (.ptr l o)=>some (.ptr l o,σ)
  |some (.dat (.imm cs o))=>some (.dat (.imm cs o),σ)
  |some (.eptr l n o)=>some (.eptr l n o,σ)
  |some (.bm g (.ptr l o))=>some (.bm g (.ptr l o),σ)
  |some (.iface t v)=>some (.iface t v,σ)
  |_=>none
 |.bin op x y=>match x.ev fr,y.ev fr with
  |some (.dat (.lit a)),some (.dat (.lit b))=>match qrf op a b with
   |some v=>some (.dat (.lit v),σ)
   |none=>none
  |_,_=>none
 |.isnil p neg x=>match x.ev fr with
  |some v=>match qvm p v with
   |some b=>some (.bool (if neg then !b else b),σ)
   |none=>none
  |none=>none
 |.isnils neg x=>match x.ev fr with
  |some v=>match qrG v with
   |some b=>some (.bool (if neg then !b else b),σ)
   |none=>none
  |none=>none
 |.mkif t x=>match x.ev fr with
  |some v=>some (.iface t v,σ)
  |none=>none
 |.mkmeth tbl x=>match x.ev fr with
  |some (.iface t v)=>match tbl.lookup t with
   |some g=>some (.bm g v,σ)
   |none=>none
  |_=>none
 |.bytes x=>match x.ev fr with
  |some (.dat (.lit (.string s)))=>if (s.size:Int)<=2 ^ 40 then some (.dat (.sl (qeO s) s.size false),σ) else none
  |_=>none
 |.mkslice own z b x y=>match x.ev fr,y.ev fr with
  |some (.dat (.lit (.int _ l))),some (.dat (.lit (.int _ c)))=>
   if 0<=l/\l<=c/\c<=2 ^ 40/\b*c<=2 ^ 48 then
    (if own then some (.own σ.length l.toNat z.length,σ ++ [.vec ((qbU l.toNat z).map .dat)])
    else some (.msl σ.length 0 l.toNat c.toNat z.length,σ ++ [.cells ((qbU c.toNat z).map .dat)])) else none
  |_,_=>none
 |.eqb neg x y=>match x.ev fr,y.ev fr with
  |some (.dat (.lit (.bool a))),some (.dat (.lit (.bool b)))=>some (.bool (if neg then !(a==b) else a==b),σ)
  |_,_=>none
 |.eqa neg kds x y=>match x.ev fr,y.ev fr with
  |some (.dat (.agg as)),some (.dat (.agg bs))=>match qfk kds as bs with
   |some b=>some (.bool (if neg then !b else b),σ)
   |none=>none
  |_,_=>none
 |.un op x=>match x.ev fr with
  |some (.dat (.lit a))=>match unV op a with
   |some v=>some (.dat (.lit v),σ)
   |none=>none
  |_=>none
 |.conv k x=>match x.ev fr with
  |some (.dat (.lit a))=>match qpK k a with
   |some v=>some (.dat (.lit v),σ)
   |none=>none
  |_=>none
 |.fieldAddr off x=>match x.ev fr with
  |some p=>match qcJ off p with
   |some v=>some (v,σ)
   |none=>none
  |none=>none
 |.field agg off n x=>match x.ev fr with
  |some v=>match v.aggCells with
   |some cs=>match qad cs off n with
    |some vs=>match qbV agg vs with
     |some u=>some (u,σ)
     |none=>none
    |none=>none
   |none=>none
  |none=>none
 |.indexAddr sz x i=>match x.ev fr,i.ev fr with
  |some s,some (.dat (.lit (.int _ n)))=>match qai sz s n with
   |some v=>some (v,σ)
   |none=>none
  |_,_=>none
 |.indexAddrA len sz x i=>match x.ev fr,i.ev fr with
  |some s,some (.dat (.lit (.int _ n)))=>if 0<=n/\n<len then (match qcJ (n.toNat*sz) s with
   |some v=>some (v,σ)
   |none=>none) else none
  |_,_=>none
 |.indexA agg len sz x i=>match x.ev fr,i.ev fr with
  |some v,some (.dat (.lit (.int _ n)))=>if 0<=n/\n<len then (match v.aggCells with
   |some cs=>match qad cs (n.toNat*sz) sz with
    |some vs=>match qbV agg vs with
     |some u=>some (u,σ)
     |none=>none
    |none=>none
   |none=>none) else none
  |_,_=>none
 |.indexS x i=>match x.ev fr,i.ev fr with
  |some (.dat (.lit (.string s))),some (.dat (.lit (.int _ n)))=>if 0<=n then (match s[n.toNat]? with
   |some b=>some (.dat (.lit (.int .u8 b.toNat)),σ)
   |none=>none) else none
  |_,_=>none
 |.slice sz x lo hi=>match x.ev fr,qci fr lo,qci fr hi with
  |some v,some l,some h=>match qcL sz l h v with
   |some u=>some (u,σ)
   |none=>none
  |_,_,_=>none
 |.sliceS x lo hi=>match x.ev fr,qci fr lo,qci fr hi with
  |some v,some l,some h=>match qjY l h v with
   |some u=>some (u,σ)
   |none=>none
  |_,_,_=>none
 |.len k x=>match x.ev fr with
  |some v=>match v.len σ k with
   |some n=>some (.dat (.lit (.int .i64 n)),σ)
   |none=>none
  |none=>none
 |.min xs=>match evs fr xs with
  |some vs=>match qmx vs with
   |some (y::ys)=>match qpM y ys with
    |some v=>some (.dat (.lit v),σ)
    |none=>none
   |_=>none
  |none=>none
 |.max xs=>match evs fr xs with
  |some vs=>match qmx vs with
   |some (y::ys)=>match qpN y ys with
    |some v=>some (.dat (.lit v),σ)
    |none=>none
   |_=>none
  |none=>none
 |.append sz bytes s x=>match s.ev fr,x.ev fr with
  |some a,some b=>qbs σ sz bytes a b
  |_,_=>none
 |.appendO sz bytes s x=>match s.ev fr,x.ev fr with
  |some a,some b=>appendO σ sz bytes a b
  |_,_=>none
 |.cut sz x lo hi=>match x.ev fr,qci fr lo,qci fr hi with
  |some v,some l,some h=>qvo σ sz l h v
  |_,_,_=>none
 |.mkmap=>some (.mp σ.length,σ ++ [.map []])
 |.mapset kd m k v=>match m.ev fr,k.ev fr,v.ev fr with
  |some (.mp l),some (.dat (.lit key)),some x=>match σ[l]? with
   |some (.map es)=>if qos kd key then (match qtQ kd key x es with
    |some es'=>some (.dat (.lit undef),σ.set l (.map es'))
    |none=>none) else none
   |_=>none
  |_,_,_=>none
 |.lookup kd zero m k ok=>match m.ev fr,k.ev fr with
  |some (.mp l),some (.dat (.lit key))=>match σ[l]? with
   |some (.map es)=>if qos kd key then (match qmw kd key es with
    |some (some v)=>some (if ok then .tup [v,.bool true] else v,σ)
    |some none=>some (if ok then .tup [.dat zero,.bool false] else .dat zero,σ)
    |none=>none) else none
   |_=>none
  |_,_=>none
 |.mkfn f a b=>match evs fr a,evs fr b with
  |some as,some bs=>some (.fn f as bs,σ)
  |_,_=>none
 |.extract x i=>match x.ev fr with
  |some (.tup vs)=>match vs[i]? with
   |some v=>some (v,σ)
   |none=>none
  |_=>none
 |.call f xs=>match evs fr xs with
  |some vs=>qaE C (.call f) (qbT f vs σ).1 (qbT f vs σ).2
  |none=>none
 |.invoke tbl x xs=>match x.ev fr,evs fr xs with
  |some (.iface t v),some vs=>match tbl.lookup t with
   |some g=>qaE C (.call g) (qbT g (v::vs) σ).1 (qbT g (v::vs) σ).2
   |none=>none
  |_,_=>none
 |.callv f xs=>match f.ev fr,evs fr xs with
  |some (.fn id a b),some vs=>qaE C (.call id) (a++(qbT id vs σ).1++b) (qbT id vs σ).2
  |some (.bm g v),some vs=>qaE C (.call g) (qbT g (v::vs) σ).1 (qbT g (v::vs) σ).2
  |some (.yld l),some vs=>qaE C .round (.yld l::vs) σ
  |_,_=>none
 |.defer f xs=>match f.ev fr,evs fr xs with
  |some (.fn id a b),some vs=>some (.tup (.fn id (a++vs++b) []::fr.defs),σ)
  |_,_=>none
 |.panic _=>none
 |.recov=>match fr.get qjX with
  |some v=>some (v,σ)
  |none=>none
 |.boxT t x=>match x.ev fr with
  |some v=>if v.cells.all V.one then some (.ptr σ.length 0,σ ++ [.cellsT t v.cells]) else none
  |none=>none
 |.appendT t sz bytes s x=>match s.ev fr,x.ev fr with
  |some a,some b=>appendT σ t sz bytes a b
  |_,_=>none
 |.up x=>match x.ev fr with
  |some (.ptr l o)=>match σ[l]? with
   |some (.cellsT _ cs)=>if o<cs.length then some (.ptr l o,σ) else none
   |_=>none
  |_=>none
 |.down ts x=>match x.ev fr with
  |some (.ptr l 0)=>match σ[l]? with
   |some (.cellsT t cs)=>if ts.contains (t,cs.length)=true then some (.ptr l 0,σ) else none
   |_=>none
  |_=>none
 |.peq neg x y=>match x.ev fr,y.ev fr with
  |some (.ptr l o),some (.ptr l' o')=>if l=l'/\o=o' then some (.bool (!neg),σ) else none
  |_,_=>none
 |.usd x=>match x.ev fr with
  |some (.dat (.lit (.slice none 0 0)))=>some (.dat (.lit (.pointer none)),σ)
  |some (.own l n sz)=>if 0<n/\sz=1 then some (.eptr l n 0,σ) else none
  |_=>none
 |.ustr ts x n=>match x.ev fr,n.ev fr with
  |some (.dat (.lit (.pointer none))),some (.dat (.lit (.int .i64 k)))=>if k=0 then some (.str ⟨#[]⟩,σ) else none
  |some (.eptr l m o),some (.dat (.lit (.int .i64 k)))=>match σ[l]? with
   |some (.vecT t cs)=>if ts.contains t=true/\cs.length=m/\k=m/\0<m/\o=0/\m<=2 ^ 40 then (match qd9 cs with
    |some bs=>some (.str ⟨bs.toArray⟩,σ.set l .dead)
    |none=>none) else none
   |_=>none
  |_,_=>none
 |.bstr x=>match x.ev fr with
  |some v=>match qpL σ v with
   |some u=>some (u,σ)
   |none=>none
  |none=>none
 |.sliceA len sz x lo hi=>match x.ev fr,qci fr lo,qci fr hi with
  |some v,some l,some h=>match qh2 len sz l h v with
   |some u=>some (u,σ)
   |none=>none
  |_,_,_=>none
 |.idxb s c=>match s.ev fr,c.ev fr with
  |some (.dat (.lit (.string s))),some (.dat (.lit (.int .u8 n)))=>some (.int (firstIdx s n.toNat.toUInt8),σ)
  |_,_=>none
 |.slice3 sz x lo hi mx=>match x.ev fr,qci fr lo,qci fr hi,mx.ev fr with
  |some v,some l,some (some h),some m=>match qjZ σ sz l h m v with
   |some u=>some (u,σ)
   |none=>none
  |_,_,_,_=>none
 |.copy sz x y=>match x.ev fr,y.ev fr with
  |some a,some b=>match qor σ b,V.len σ .sl a with
   |some (xs,m),some n=>if xs.length=m*sz/\b.isStr=false/\xs.all V.one=true then (match qrg σ (xs.take (min n.toNat m*sz)) a with
    |some σ'=>some (.int (min n.toNat m),σ')
    |none=>none) else none
   |_,_=>none
  |_,_=>none
 |.clr z x=>match x.ev fr with
  |some a=>match V.len σ .sl a with
   |some n=>match qrg σ ((qbU n.toNat z).map .dat) a with
    |some σ'=>some (.tup [],σ')
    |none=>none
   |none=>none
  |none=>none
 |.mkmapH x=>match x.ev fr with
  |some (.dat (.lit (.int _ _)))=>some (.mp σ.length,σ ++ [.map []])
  |_=>none
 |.cap0 x=>match x.ev fr with
  |some (.dat (.lit (.slice none 0 0)))=>some (.int 0,σ)
  |_=>none
 |.appendZ z b s n=>match s.ev fr,n.ev fr with
  |some (.dat (.lit (.slice none 0 0))),some (.dat (.lit (.int _ m)))=>
   if 0<m/\m<=2 ^ 40/\qaA m.toNat b then some (.own σ.length m.toNat z.length,σ ++ [.vec ((qbU m.toNat z).map .dat)]) else none
  |_,_=>none
 |.mapdel kd m k=>match m.ev fr,k.ev fr with
  |some (.mp l),some (.dat (.lit key))=>match σ[l]? with
   |some (.map es)=>if qos kd key then (match qtR kd key es with
    |some es'=>some (.tup [],σ.set l (.map es'))
    |none=>none) else none
   |_=>none
  |_,_=>none
 |.mrange x=>match x.ev fr with
  |some (.mp l)=>match σ[l]? with
   |some (.map _)=>some (.ptr σ.length 0,σ ++ [.iter l])
   |_=>none
  |_=>none
 |.mnext x=>match x.ev fr with
  |some (.ptr l 0)=>match σ[l]? with
   |some (.iter m)=>match σ[m]? with
    |some (.map [])=>some (.tup [.bool false],σ)
    |_=>none
   |_=>none
  |_=>none
 |.bad=>none
 |.fill k=>match fr.get k with
  |some (.ptr l 0)=>match σ[l]? with
   |some (.cells _)=>some (.ptr l 0,σ)
   |_=>none
  |some (.mp l)=>match σ[l]? with
   |some (.map _)=>some (.mp l,σ)
   |_=>none
  |_=>none
def qbk(C:Task->Option Res)(fr:Fr)(σ : S):O->Option (V × S)
 |.call f xs=>match evs fr xs with
  |some vs=>qbF C (.call f) (qbT f vs σ).1 (qbT f vs σ).2
  |none=>none
 |.invoke tbl x xs=>match x.ev fr,evs fr xs with
  |some (.iface t v),some vs=>match tbl.lookup t with
   |some g=>qbF C (.call g) (qbT g (v::vs) σ).1 (qbT g (v::vs) σ).2
   |none=>none
  |_,_=>none
 |.callv f xs=>match f.ev fr,evs fr xs with
  |some (.fn id a b),some vs=>qbF C (.call id) (a++(qbT id vs σ).1++b) (qbT id vs σ).2
  |some (.bm g v),some vs=>qbF C (.call g) (qbT g (v::vs) σ).1 (qbT g (v::vs) σ).2
  |_,_=>none
 |.panic x=>match x.ev fr with
  |some (.iface t v)=>some (.iface t v,σ)
  |_=>none
 |_=>none
def O.calls:O->Bool
 |.call .. | .invoke .. | .callv .. | .panic .. => true
 |_=>false
theorem qmy{C:Task->Option Res}{fr:Fr}{σ : S}{op:O}(h:op.calls=false):qbk C fr σ op=none:=by
 cases op<;>first|rfl|cases h
def X.tmps:X->List Nat
 |.t n=>[n]
 |_=>[]
def qiD:List X->List Nat
 |[]=>[]
 |x::r=>x.tmps++qiD r
def qpO:List (Nat × Nat × X)->List Nat
 |[]=>[]
 | (_,_,x)::r=>x.tmps++qpO r
def qlk:Option X->List Nat
 |none=>[]
 |some x=>x.tmps
def O.tmps:O->List Nat
 |.mov x | .box x | .boxT _ x | .load _ _ x | .nilchk x | .un _ x | .conv _ x | .fieldAddr _ x | .field _ _ _ x | .len _ x | .extract x _ | .isnil _ _ x | .isnils _ x | .mkif _ x | .mkmeth _ x | .bytes x | .clr _ x | .mkmapH x | .cap0 x | .mrange x | .mnext x | .up x | .down _ x | .usd x | .bstr x=>x.tmps
 |.pick c a b=>c.tmps++(a.tmps++b.tmps)
 |.alloc _ | .mkmap | .bad=>[]
 |.build _ ps | .bslice _ _ ps | .bsliceO _ _ _ ps=>qpO ps
 |.store _ a x | .bin _ a x | .eqb _ a x | .eqa _ _ a x | .mkslice _ _ _ a x | .indexAddr _ a x | .indexAddrA _ _ a x | .indexA _ _ _ a x | .indexS a x | .append _ _ a x | .appendO _ _ a x | .appendT _ _ _ a x | .peq _ a x | .ustr _ a x | .idxb a x | .lookup _ _ a x _ | .copy _ a x | .mapdel _ a x | .appendZ _ _ a x=>a.tmps++x.tmps
 |.slice _ x l h | .sliceS x l h | .cut _ x l h | .sliceA _ _ x l h=>x.tmps++(qlk l++qlk h)
 |.slice3 _ x l h m=>x.tmps++(qlk l++(qlk h++m.tmps))
 |.min xs | .max xs | .call _ xs=>qiD xs
 |.mapset _ a b c=>a.tmps++(b.tmps++c.tmps)
 |.mkfn _ a b=>qiD a++qiD b
 |.callv f xs=>f.tmps++qiD xs
 |.invoke _ f xs=>f.tmps++qiD xs
 |.defer f xs=>dkey::(f.tmps++qiD xs)
 |.panic x=>x.tmps
 |.recov=>[qjX]
 |.fill k=>[k]
def I.looks(i:I):List Nat:=i.op.tmps++(match i.guard with|some (t,_)=>[t] | none=>[])
def qaQ(fr:Fr):Option (Nat × Bool)->Option Bool
 |none=>some true
 |some (t,want)=>match fr.get t with
  |some (.dat (.lit (.bool b)))=>some (b==want)
  |some (.dat (.lit _))=>some false
  |_=>none
def qbM(C:Task->Option Res):List I->Fr->S->Option (Fr × S)
 |[],fr,σ => some (fr,σ)
 |i::r,fr,σ => match qaQ fr i.guard with
  |some true=>match qar C fr σ i.op with
   |some (v,σ')=>qbM C r (fr.put i.dst v) σ'
   |none=>none
  |some false=>qbM C r (fr.put i.dst (.dat (.lit undef))) σ
  |none=>none
def qb9(C:Task->Option Res):List I->Fr->S->Option (V × Fr × S)
 |[],_,_=>none
 |i::r,fr,σ => match qaQ fr i.guard with
  |some true=>match qar C fr σ i.op with
   |some (v,σ')=>qb9 C r (fr.put i.dst v) σ'
   |none=>match qbk C fr σ i.op with
    |some (v,σ')=>some (v,fr,σ')
    |none=>none
  |some false=>qb9 C r (fr.put i.dst (.dat (.lit undef))) σ
  |none=>none
inductive Ev where
 |pure
 |read (l:Nat)
 |chain (n:Nat) (T:List Nat)
 deriving Inhabited
def qdh:Option V->List Nat
 |some v=>v.locs
 |none=>[]
def qcM:Option V->Ev
 |some (.ptr l _) => .read l
 |some (.eptr l _ _) => .read l
 |some (.mp l) => .read l
 |_ => .pure
def qh3:Option (List V)->List Nat
 |some vs=>qau vs
 |none=>[]
def qll(f:Nat)(vs:Option (List V))(σ : S):List V × S:=match vs with
 |some vs=>qbT f vs σ
 |none=>([],σ)
def qck(fr:Fr)(σ : S):O->Ev
 |.load _ _ a=>qcM (a.ev fr)
 |.lookup _ _ m _ _=>qcM (m.ev fr)
 |.len _ x=>qcM (x.ev fr)
 |.fill k=>qcM (fr.get k)
 |.alloc _ | .boxT _ _ | .box _ | .mkmap | .mkmapH _ | .appendZ .. | .mkslice .. | .bsliceO .. | .up _ | .down _ _ | .bstr _ | .mrange _ | .mnext _ | .slice3 .. => .chain σ.length []
 |.store _ a _ => .chain σ.length (qdh (a.ev fr))
 |.mapset _ m _ _ | .mapdel _ m _ | .copy _ m _ | .clr _ m => .chain σ.length (qdh (m.ev fr))
 |.append _ _ s _ | .appendO _ _ s _ | .appendT _ _ _ s _ | .ustr _ s _ | .cut _ s _ _ => .chain σ.length (qdh (s.ev fr))
 |.call f xs => .chain σ.length (qh3 (evs fr xs)++reach (qll f (evs fr xs) σ).2 (qll f (evs fr xs) σ).2.length (qau (qll f (evs fr xs) σ).1) [])
 |.invoke tbl x xs=>match x.ev fr with
  |some (.iface t v)=>match tbl.lookup t with
   |some g => .chain σ.length (v.locs++qh3 (evs fr xs)++reach (qll g ((evs fr xs).map (v :: ·)) σ).2 (qll g ((evs fr xs).map (v :: ·)) σ).2.length (qau (qll g ((evs fr xs).map (v :: ·)) σ).1) [])
   |none => .pure
  |_ => .pure
 |.callv f xs=>match f.ev fr with
  |some (.fn f a b) => .chain σ.length (qh3 (evs fr xs)++reach (qll f (evs fr xs) σ).2 (qll f (evs fr xs) σ).2.length (qau a++(qau (qll f (evs fr xs) σ).1++qau b)) [])
  |some (.bm g v) => .chain σ.length (v.locs++qh3 (evs fr xs)++reach (qll g ((evs fr xs).map (v :: ·)) σ).2 (qll g ((evs fr xs).map (v :: ·)) σ).2.length (qau (qll g ((evs fr xs).map (v :: ·)) σ).1) [])
  |some (.yld l) => .chain σ.length (reach σ σ.length (l::qh3 (evs fr xs)) [])
  |_ => .pure
 |_ => .pure
def O.chain:O->Bool
 |.alloc _ | .boxT _ _ | .box _ | .store .. | .append .. | .appendO .. | .appendT .. | .up _ | .down _ _ | .ustr .. | .bstr _ | .cut .. | .mkmap | .mkmapH _ | .appendZ .. | .mapdel .. | .copy .. | .clr .. | .mrange _ | .mnext _ | .slice3 .. | .mkslice .. | .bsliceO .. | .mapset .. | .call .. | .callv .. | .invoke .. => true
 |_=>false
def O.reads:O->Bool
 |.load .. | .lookup .. | .len .. | .fill .. => true
 |_=>false
def O.isFill:O->Bool
 |.fill _=>true
 |_=>false
def qbZ(C:Task->Option Res):List I->Fr->S->Option (List Ev × Fr × S)
 |[],fr,σ => some ([],fr,σ)
 |i::r,fr,σ => match qaQ fr i.guard with
  |some true=>match qar C fr σ i.op with
   |some (v,σ')=>match qbZ C r (fr.put i.dst v) σ' with
    |some (l,fr',σ'')=>some (qck fr σ i.op::l,fr',σ'')
    |none=>none
   |none=>none
  |some false=>match qbZ C r (fr.put i.dst (.dat (.lit undef))) σ with
   |some (l,fr',σ'')=>some (.pure::l,fr',σ'')
   |none=>none
  |none=>none
def qbA(C:Task->Option Res):Nat->List I->Fr->S->Option (Nat × List Ev × V × S)
 |_,[],_,_=>none
 |k,i::r,fr,σ => match qaQ fr i.guard with
  |some true=>match qar C fr σ i.op with
   |some (v,σ')=>match qbA C (k+1) r (fr.put i.dst v) σ' with
    |some (p,l,u,σ'')=>some (p,qck fr σ i.op::l,u,σ'')
    |none=>none
   |none=>match qbk C fr σ i.op with
    |some (v,σ')=>some (k,[],v,σ')
    |none=>none
  |some false=>match qbA C (k+1) r (fr.put i.dst (.dat (.lit undef))) σ with
   |some (p,l,u,σ'')=>some (p,.pure::l,u,σ'')
   |none=>none
  |none=>none
def qdw:List D->Bool
 |[.agg []]=>true
 |_=>false
def qbq:List (Nat × List D)->S
 |[]=>[]
 | (_,z)::r=>(if qdw z then .map [] else .cells (z.map .dat))::qbq r
def qaU:Nat->List (Nat × List D)->Fr->Fr
 |_,[],fr=>fr
 |l,(k,z)::r,fr=>qaU (l+1) r ((k,if qdw z then .mp l else .ptr l 0)::fr)
def qh4(es:List Ev)(l j:Nat):List Nat->Bool
 |[]=>true
 |i::r=>(match es[i]? with
  |some (.chain n T) => !T.contains l&&(decide (j<=i)||decide (l<n))
  |_=>true)&&qh4 es l j r
def qot(es:List Ev):List I->Nat->List Ev->Bool
 |i::is,j,e::r=>(match e with | .read l=>qh4 es l j i.un|_=>true)&&qot es is (j+1) r
 |_,_,_=>true
def qeP(C:Task->Option Res):List I->Fr->S->Option (List (Fr × S))
 |[],fr,σ => some [(fr,σ)]
 |i::r,fr,σ => match qaQ fr i.guard with
  |some true=>match qar C fr σ i.op with
   |some (v,σ')=>match qeP C r (fr.put i.dst v) σ' with
    |some l=>some ((fr,σ)::l)
    |none=>none
   |none=>none
  |some false=>match qeP C r (fr.put i.dst (.dat (.lit undef))) σ with
   |some l=>some ((fr,σ)::l)
   |none=>none
  |none=>none
def qzk:IntKind->IntKind->Bool
 |.i8,.i8=>true | .i16,.i16=>true | .i32,.i32=>true | .i64,.i64=>true
 |.u8,.u8=>true | .u16,.u16=>true | .u32,.u32=>true | .u64,.u64=>true
 |_,_=>false
theorem qtS : ∀ {a b:IntKind},qzk a b=true->a=b:=fun {a b} h=>by cases a<;>cases b<;>first|rfl|cases h
def qv8:Int->Int->Bool
 |.ofNat a,.ofNat b=>Nat.beq a b
 |.negSucc a,.negSucc b=>Nat.beq a b
 |_,_=>false
theorem qrH : ∀ {a b:Int},qv8 a b=true->a=b:=fun {a b} h=>by
 cases a<;>cases b<;>first|cases h; done | (have:=Nat.eq_of_beq_eq_true h; subst this; rfl)
def qyg:List UInt8->List UInt8->Bool
 |[],[]=>true
 |a::r,b::t=>Nat.beq a.toNat b.toNat&&qyg r t
 |_,_=>false
theorem qpP : ∀ {a b:List UInt8},qyg a b=true->a=b
 |[],[],_=>rfl
 |a::r,b::t,h=>by
  simp only[qyg,Wh] at h
  have h1:=Nat.eq_of_beq_eq_true h.1
  rw[qpP h.2,UInt8.toNat_inj.1 h1]
 |[],_::_,h=>by cases h
 |_::_,[],h=>by cases h
def qyL(a b:Bool):Bool:=cond a b (cond b false true)
theorem qpQ{a b:Bool}(h:qyL a b=true):a=b:=by cases a<;>cases b<;>first|rfl|cases h
def qrI:Value->Value->Bool
 |.int j a,.int k b=>qzk j k&&qv8 a b
 |.bool a,.bool b=>qyL a b
 |.string a,.string b=>qyg a.data.toList b.data.toList
 |.slice none 0 0,.slice none 0 0=>true
 |.pointer none,.pointer none=>true
 |_,_=>false
theorem qnd : ∀ {a b:Value},qrI a b=true->a=b:=fun {a b} h=>by
 unfold qrI at h
 split at h
 ·simp only[Wh] at h; rw[qtS h.1,qrH h.2]
 ·rw[qpQ h]
 ·rename_i x y
  have:=qpP h
  obtain⟨⟨x⟩⟩:=x; obtain⟨⟨y⟩⟩:=y
  simp only at this
  rw[this]
 ·rfl
 ·rfl
 ·cases h
mutual
def eqD:D->D->Bool
 |.lit a,.lit b=>qrI a b
 |.sl a n f,.sl b m g=>Nat.beq n m&&(qyL f g&&qpR a b)
 |.imm a n,.imm b m=>Nat.beq n m&&qpR a b
 |.agg a,.agg b=>qpR a b
 |.iface t a,.iface u b=>Nat.beq t u&&eqD a b
 |_,_=>false
def qpR:List D->List D->Bool
 |[],[]=>true
 |a::r,b::t=>eqD a b&&qpR r t
 |_,_=>false
end
mutual
theorem qpS : ∀ {a b:D},eqD a b=true->a=b
 |.lit a,.lit b,h=>by simp only[eqD] at h; rw[qnd h]
 |.sl a n f,.sl b m g,h=>by
  simp only[eqD,Wh] at h
  rw[Nat.eq_of_beq_eq_true h.1,qpQ h.2.1,qfr h.2.2]
 |.imm a n,.imm b m,h=>by
  simp only[eqD,Wh] at h
  rw[Nat.eq_of_beq_eq_true h.1,qfr h.2]
 |.agg a,.agg b,h=>by simp only[eqD] at h; rw[qfr h]
 |.iface t a,.iface u b,h=>by
  simp only[eqD,Wh] at h
  rw[Nat.eq_of_beq_eq_true h.1,qpS h.2]
 |.lit _,.sl ..,h | .lit _,.imm ..,h | .lit _,.agg _,h | .lit _,.iface ..,h=>by simp[eqD] at h
 |.sl ..,.lit _,h | .sl ..,.imm ..,h | .sl ..,.agg _,h | .sl ..,.iface ..,h=>by simp[eqD] at h
 |.imm ..,.lit _,h | .imm ..,.sl ..,h | .imm ..,.agg _,h | .imm ..,.iface ..,h=>by simp[eqD] at h
 |.agg _,.lit _,h | .agg _,.sl ..,h | .agg _,.imm ..,h | .agg _,.iface ..,h=>by simp[eqD] at h
 |.iface ..,.lit _,h | .iface ..,.sl ..,h | .iface ..,.imm ..,h | .iface ..,.agg _,h=>by simp[eqD] at h
theorem qfr : ∀ {a b:List D},qpR a b=true->a=b
 |[],[],_=>rfl
 |a::r,b::t,h=>by
  simp only[qpR,Wh] at h
  rw[qpS h.1,qfr h.2]
 |[],_::_,h=>by simp[qpR] at h
 |_::_,[],h=>by simp[qpR] at h
end
def V.same:V->V->Bool
 |.own l n sz,.own l' n' sz'=>l==l'&&(n==n'&&sz==sz')
 |.dat (.lit (.int k a)),.dat (.lit (.int k' b))=>decide (k=k')&&eqI a b
 |.dat (.lit (.slice none 0 0)),.dat (.lit (.slice none 0 0))=>true
 |.ptr l o,.ptr l' o'=>l==l'&&o==o'
 |.mp l,.mp l'=>l==l'
 |.dat (.imm cs o),.dat (.imm cs' o')=>o==o'&&qpR cs cs'
 |_,_=>false
def still(ss:List (Fr × S))(agg:Bool)(n:Nat)(p:V):List Nat->Bool
 |[]=>true
 |i::r=>(match ss[i]?,ss[i+1]? with
  |some a,some b=>match qco a.2 agg n p,qco b.2 agg n p with
   |some u,some v=>u.same v
   |_,_=>false
  |_,_=>true)&&still ss agg n p r
def qpT(ss:List (Fr × S))(i:I)(j:Nat):Bool:=match i.op,ss[j]? with
 |.load agg n x,some s=>match x.ev s.1 with
  |some p=>still ss agg n p i.un
  |none=>false
 |_,_=>false
def qlm(es:List Ev)(ss:List (Fr × S)):List I->Nat->List Ev->Bool
 |i::is,j,e::r=>(match e with | .read l=>qh4 es l j i.un||qpT ss i j|_=>true)&&qlm es ss is (j+1) r
 |_,_,_=>true
def Ex.isPan:Ex->Bool
 |.pan _=>true
 |_=>false
def run(C:Task->Option Res)(k:Nat):PC->Fr->S->Option (Ex × Fr × S)
 |.skip,fr,σ => some (.normal,fr,σ)
 |.region none ops keep _,fr,σ => match qbM C ops fr σ with
  |some (fr',σ')=>some (.normal,fr'.keep keep,σ')
  |none=>match qb9 C ops fr σ with
   |some (v,fr',σ')=>some (.pan v,fr',σ')
   |none=>none
 |.region (some rs) ops keep lasts,fr,σ => match qbZ C ops (qaU σ.length rs fr) (σ ++ qbq rs) with
  |some (es,fr',σ')=>if qot es ops 0 es then some (.normal,fr'.keep keep,σ') else (match qeP C ops (qaU σ.length rs fr) (σ ++ qbq rs) with
   |some ss=>if qlm es ss ops 0 es then some (.normal,fr'.keep keep,σ') else none
   |none=>none)
  |none=>match qbA C 0 ops (qaU σ.length rs fr) (σ ++ qbq rs) with
   |some (p,es,v,σ')=>if lasts.contains p&&qot es (ops.take p) 0 es then some (.pan v,fr.keep [dkey],σ') else none
   |none=>none
 |.seq a b,fr,σ => match run C k a fr σ with
  |some (.normal,fr',σ')=>run C k b fr' σ'
  |r=>r
 |.cond c a b,fr,σ => match c.ev fr with
  |some (.dat (.lit (.bool true)))=>run C k a fr σ
  |some (.dat (.lit (.bool false)))=>run C k b fr σ
  |_=>none
 |.block id b,fr,σ => match run C k b fr σ with
  |some (.exit id',fr',σ')=>if id'=id then some (.normal,fr',σ') else some (.exit id',fr',σ')
  |r=>r
 |.loop b,fr,σ => match C (.loop k b fr σ) with
  |some (.out e fr' σ')=>some (e,fr',σ')
  |_=>none
 |.exit id,fr,σ => some (.exit id,fr,σ)
 |.ret,fr,σ => some (.ret,fr,σ)
 |.range f ps assign body,fr,σ => match f.ev fr with
  |some (.fn id a b)=>match (if (qaR fr).all (fun l=>decide (l < σ.length)) then qaE C (.call id) (a++(.yld σ.length::b)) (σ ++ [.loop ⟨fr.noD,ps,assign,body,0,none⟩]) else none) with
   |some (_,σ')=>match σ'[σ.length]? with
    |some (.loop lp)=>if lp.st=1\/lp.pend.any Ex.isPan=true then none else some (lp.pend.getD .normal,fr,σ'.set σ.length (.loop { lp with st:=3 }))
    |_=>none
   |none=>none
  |_=>none
def qbd:Nat->List V->Fr
 |_,[]=>[]
 |i,v::r=>(i,v)::qbd (i+1) r
def qrJ(fr:Fr)(σ : S):List PR->Option (List V)
 |[]=>some []
 |.tmp t::r=>match fr.get t,qrJ fr σ r with
  |some v,some vs=>some (v::vs)
  |_,_=>none
 |.cell t agg n::r=>match fr.get t with
  |some p=>match qco σ agg n p,qrJ fr σ r with
   |some v,some vs=>some (v::vs)
   |_,_=>none
  |none=>none
def one:List V->V
 |[v]=>v
 |vs => .tup vs
def gcL(k:Nat)(ls:List Nat)(σ : S):List Nat:=List.range k++(reach σ σ.length (List.range k++ls) []).filter (fun l=>decide (k<=l))
def gcF(k:Nat)(fr:Fr)(σ : S):Option (Fr × S):=
 let L:=gcL k (qaR fr) σ
 match qaO L [] σ with
 |some (_,σ')=>if inL L (qaR fr) then some (qd8 (idx L) fr,σ') else none
 |none=>none
def qep(fr:Fr):List Nat->List V->Fr
 |p::ps,v::vs=>qep ((p,v)::fr) ps vs
 |_,_=>fr
def PC.flat:PC->Bool
 |.seq a b | .cond _ a b=>a.flat&&b.flat
 |.block _ b | .loop b=>b.flat
 |.range .. => false
 |.region _ ops _ _=>ops.all fun i=>match i.op with | .defer _ _=>false|_=>true
 |_=>true
def Lp.ended(lp:Lp):Ex->Lp
 |.normal=>{ lp with st:=0,pend:=none }
 |e=>{ lp with st:=2,pend:=some e }
def Ex.isNormal:Ex->Bool
 |.normal=>true
 |_=>false
def qb3(C:Task->Option Res):List V->S->Option Res
 |.yld l::vs,σ => match σ[l]? with
  |some (.loop lp)=>
   if vs.length=lp.ps.length/\(lp.st=0/\(lp.assign.flat&&lp.body.flat)=true/\((qep lp.fr lp.ps vs).get dkey).isNone=true) then
    match run C σ.length lp.assign (qep lp.fr lp.ps vs) σ with
    |some (.normal,fr1,σ1)=>match σ1[l]? with
     |some (.loop lp1)=>if lp1.st=0/\(fr1.get dkey).isNone=true then (match run C σ.length lp.body fr1 (σ1.set l (.loop { lp1 with st:=1 })) with
      |some (.pan _,_,_)=>none
      |some (e,_,σ2)=>match σ2[l]? with
       |some (.loop lp2)=>match qaO (gcL σ.length [] (σ2.set l (.loop (lp2.ended e)))) [] (σ2.set l (.loop (lp2.ended e))) with
        |some (_,σ3)=>some (.ret (.bool e.isNormal) σ3)
        |none=>none
       |_=>none
      |none=>none) else none
     |_=>none
    |_=>none
   else none
  |_=>none
 |_,_=>none
def finishV(k:Nat)(vs:List V)(σ : S):Option Res:=
 match qaO (gcL k (qau vs) σ) vs σ with
 |some (vs',σ')=>some (.ret (one vs') σ')
 |none=>none
def qcl(pf:PFun)(k:Nat)(fr:Fr)(σ : S):Option Res:=
 match qrJ fr σ pf.results with
 |some vs0=>
  if pf.noseal then finishV k vs0 σ
  else if (qc8 pf.fz k σ vs0).2.all (fun l => !(gcL k (qau (qc8 pf.fz k σ vs0).1) σ).contains l) then finishV k (qc8 pf.fz k σ vs0).1 σ
  else finishV k (qh0 vs0) σ
 |none=>none
def V.isNilIf:V->Bool
 |.dat (.lit .nilIface)=>true
 |_=>false
def qa8(C:Task->Option Res):List V->S->Option S
 |[],σ => some σ
 |.fn id a []::r,σ => match qaE C (.dcall id) (.dat (.lit .nilIface)::a) σ with
  |some (_,σ')=>qa8 C r σ'
  |none=>none
 |_,_=>none
def qfh(C:Task->Option Res)(pf:PFun)(k:Nat)(fr:Fr)(σ : S):Option Res:=
 match qa8 C fr.defs σ with
 |some σ'=>qcl pf k fr σ'
 |none=>none
def qeq(C:Task->Option Res)(pf:PFun)(k:Nat)(v:V)(fr:Fr)(σ : S):Option Res:=
 match fr.defs with
 |[]=>match qaO (gcL k v.locs σ) [v] σ with
  |some ([v'],σ')=>some (.ret (.pan v') σ')
  |_=>none
 |.fn id a []::r=>if v.isNilIf then none else (match qaE C (.dcall id) (v::a) σ with
  |some (_,σ')=>match qa8 C r σ' with
   |some σ''=>qcl pf k fr σ''
   |none=>none
  |none=>none)
 |_=>none
def qbB(C:Task->Option Res)(pf:PFun)(args:List V)(σ : S):Option Res:=
 if args.length=pf.np then
  match run C σ.length pf.body (qbd 0 args) σ with
  |some (.normal,fr,σ')=>if pf.df then qfh C pf σ.length fr σ' else qcl pf σ.length fr σ'
  |some (.ret,fr,σ')=>if pf.df then qfh C pf σ.length fr σ' else qcl pf σ.length fr σ'
  |some (.pan v,fr,σ')=>qeq C pf σ.length v fr σ'
  |_=>none
 else none
def qaY(C:Task->Option Res)(pf:PFun)(args:List V)(σ : S):Option Res:=
 match args with
 |pv::args=>
  if args.length=pf.np/\pf.df=false/\pf.results.isEmpty=true/\pf.body.flat=true/\(pf.catches=true\/pv.isNilIf=true) then
   match run C σ.length pf.body ((qjX,pv)::qbd 0 args) σ with
   |some (.normal,_,σ')=>match qaO (gcL σ.length [] σ') [] σ' with
    |some (_,σ'')=>some (.ret (.dat (.lit undef)) σ'')
    |none=>none
   |some (.ret,_,σ')=>match qaO (gcL σ.length [] σ') [] σ' with
    |some (_,σ'')=>some (.ret (.dat (.lit undef)) σ'')
    |none=>none
   |_=>none
  else none
 |[]=>none
def exec(prog:Nat->Option PFun):Nat->Task->Option Res
 |0,_=>none
 |n+1,.call f args σ => match prog f with
  |some pf=>if pf.catches then none else qbB (exec prog n) pf args σ
  |none=>none
 |n+1,.dcall f args σ => match prog f with
  |some pf=>qaY (exec prog n) pf args σ
  |none=>none
 |n+1,.loop k b fr σ => match gcF k fr σ with
  |some (fr0,σ0)=>match run (exec prog n) k b fr0 σ0 with
   |some (.normal,fr',σ')=>exec prog n (.loop k b fr' σ')
   |some (e,fr',σ')=>some (.out e fr' σ')
   |none=>none
  |none=>none
 |n+1,.round args σ => qb3 (exec prog n) args σ
end
section
def isZ:Operand->Bool
 |.const (.int _ 0)=>true
 |_=>false
structure Ids where
 fn:FuncId->Option Nat
 ty:TypeId->Option Nat
 gl:Nat->Option (List D)
 own:Bool:=false
 df:Bool:=false
 mf:Bool:=false
 pv:TypeId->Bool:=fun _=>false
instance:CoeFun Ids (fun _=>FuncId->Option Nat):=⟨Ids.fn⟩
def hiC:Option X->Bool
 |some (.c (.int .i64 (.ofNat (_+1))))=>true
 |_=>false
def Ids.tyA(ids:Ids)(P:Program)(e:TypeId):Option Nat:=match P.underlying e with
 |some .string=>none
 |_=>ids.ty e
theorem Ids.tyA_ty{ids:Ids}{P:Program}{e:TypeId}{t:Nat}(h:ids.tyA P e=some t):ids.ty e=some t:=by
 unfold Ids.tyA at h
 split at h
 ·cases h
 ·exact h
section
variable(P:Program)(ids:Ids)(N:Nat)
def qaJ(t:TypeId):Option Bool:=
 match P.underlying t with
 |some (.struct _)=>some true
 |some (.array _ _)=>some true
 |some _=>some false
 |none=>none
def qaH(t:TypeId):Option Nat:=(P.info? t).map (·.size)
def qcP(t:TypeId):Option Nat:=(P.info? t).map (·.bytes)
def qbo:Value->Bool
 |.agg _=>false
 |_=>true
def qaz(v:Value):List D:=v.cells.toList.map .lit
def qeo(v:Value):Bool:=v.cells.toList.all fun x=>qbo x&&x.oneCell'
def toD:Value->D
 |.agg cs => .agg (cs.toList.map .lit)
 |v => .lit v
def qcj(t:TypeId):Option Value:=match (P.info? t).bind (·.zero) with
 |some z=>if qeo z then some z else none
 |none=>none
def kdT(t:TypeId):Option KD:=
 match P.underlying t with
 |some .bool=>some .b
 |some (.int _)=>some .i
 |some .string=>some .s
 |_=>none
def qcw(rec:TypeId->Option (List KD)):Nat->List Field->Option (List KD)
 |_,[]=>some []
 |off,f::r=>if f.offset=off/\f.name ≠ "_" then (match rec f.type with
  |some ks=>match qcw rec (off+ks.length) r with
   |some rs=>some (ks++rs)
   |none=>none
  |none=>none) else none
def qrb(t:TypeId):Option (List KD)->Option (List KD)
 |some ks=>if qaH P t=some ks.length then some ks else none
 |none=>none
def qet:Nat->TypeId->Option (List KD)
 |0,_=>none
 |d+1,t=>qrb P t (match P.underlying t with
  |some .bool=>some [.b]
  |some (.int _)=>some [.i]
  |some .string=>some [.s]
  |some (.struct fs)=>if P.stoodInHeld t then none else qcw (qet d) 0 fs.toList
  |some (.array len e)=>(qet d e).map (qbU len)
  |_=>none)
def cX:Operand->Option X
 |.tmp t=>if t<N then some (.t t) else none
 |.const v=>if qbo v then some (.c v) else none
 |.global g=>(ids.gl g).map .g
 |.func f=>(ids f).map .f
def cXs:List Operand->Option (List X)
 |[]=>some []
 |x::r=>match cX ids N x,cXs r with
  |some y,some ys=>some (y::ys)
  |_,_=>none
def cOX:Option Operand->Option (Option X)
 |none=>some none
 |some x=>(cX ids N x).map some
def qgP:List Field->Option (List (Nat × Nat))
 |[]=>some []
 |f::r=>match qaH P f.type,qgP r with
  |some n,some ps=>some ((f.offset,n)::ps)
  |_,_=>none
def qiw(place:Nat->Option (Nat × Nat)):List (Nat × Operand)->Option (List (Nat × Nat × X))
 |[]=>some []
 | (i,x)::r=>match place i,cX ids N x,qiw place r with
  |some (o,n),some y,some ys=>some ((o,n,y)::ys)
  |_,_,_=>none
def methT(t:TypeId)(name:String):Option FuncId:=
 match P.info? t,P.underlying t with
 |some i,some (.pointer _)=>match i.methods.find? (·.name==name) with
  |some m=>if m.path.isEmpty then (match m.func with|some (f,true)=>some f|_=>none) else none
  |none=>none
 |_,_=>none
def qko(name:String):List Nat->List (Nat × Nat)
 |[]=>[]
 |t::r=>match ids.ty t with
  |some u=>match methT P t name with
   |some f=>match ids f with
    |some g=>(u,g)::qko name r
    |none=>qko name r
   |none=>qko name r
  |none=>qko name r
def qgQ(f:FuncId):Option Bool:=match P.funcs[f]? with
 |some fn=>if fn.body.isNone/\fn.origin = "" then (if fn.name = "internal/abi.NoEscape" then some false else if fn.name = "internal/bytealg.IndexByteString" then some true else none) else none
 |none=>none
def qlZ(u:TypeId):List TypeId->List (Nat × Nat)
 |[]=>[]
 |t::r=>match ids.ty t with
  |some n=>if liesAt P P.depth t (P.cellsOf t / P.cellsOf t) 0 u 1=true then (n,P.cellsOf t)::qlZ u r else qlZ u r
  |none=>qlZ u r
def qoN(c:Call):Option O:=
 match c.callee with
 |.value (.func f)=>match ids f,cXs ids N c.args.toList with
  |some g,some xs=>some (.call g xs)
  |none,some xs=>match qgQ P f,xs with
   |some false,[x]=>some (.mov x)
   |some true,[x,y]=>some (.idxb x y)
   |_,_=>none
  |_,_=>none
 |.value x=>match cX ids N x,cXs ids N c.args.toList with
  |some g,some xs=>some (.callv g xs)
  |_,_=>none
 |.invoke recv name=>match cX ids N recv,cXs ids N c.args.toList with
  |some x,some xs=>some (.invoke (qko P ids name (List.range P.types.size)) x xs)
  |_,_=>none
 |.builtin b=>match b,c.args.toList,c.argTypes.toList with
  |.len,[x],[t]=>match P.underlying t,cX ids N x with
   |some .string,some y=>some (.len .str y)
   |some (.slice _),some y=>some (.len .sl y)
   |some (.map _ _),some y=>some (.len .mp y)
   |_,_=>none
  |.min,xs,_=>(cXs ids N xs).map .min
  |.max,xs,_=>(cXs ids N xs).map .max
  |.append,[s,x],[ts,tx]=>match P.underlying ts,P.underlying tx,cX ids N s,cX ids N x with
   |some (.slice e),some (.slice _),some s',some x'=>match qaH P e,qcP P e,qcj P e with
    |some n,some b,some z=>if z.cells.size=n then some (if ids.own then (match ids.tyA P e with|some t => .appendT t n b s' x'|none => .appendO n b s' x') else .append n b s' x') else none
    |_,_,_=>none
   |some (.slice e),some .string,some s',some x'=>match qaH P e,qcP P e,qcj P e with
    |some n,some b,some z=>if z.cells.size=n then some (if ids.own then (match ids.tyA P e with|some t => .appendT t n b s' x'|none => .appendO n b s' x') else .append n b s' x') else none
    |_,_,_=>none
   |some (.slice e),some (.int _),some s',some x'=>match qaH P e,qcP P e,qcj P e with
    |some n,some b,some z=>if z.cells.size=n/\0<n then some (.appendZ (qaz z) b s' x') else none
    |_,_,_=>none
   |_,_,_,_=>none
  |.unsafeSliceData,[x],_=>(cX ids N x).map .usd
  |.unsafeString,[x,n],[t,_]=>match P.underlying t,cX ids N x,cX ids N n with
   |some (.pointer e),some a,some b=>match ids.ty e,P.underlying e with
    |some u,some (.int .u8)=>if qaH P e=some 1/\P.cellsOf e=1/\1<=P.depth then some (.ustr [u] a b) else none
    |_,_=>none
   |_,_,_=>none
  |.cap,[x],[t]=>match P.underlying t,cX ids N x with
   |some (.slice _),some a=>some (.cap0 a)
   |_,_=>none
  |.copy,[x,y],t::_=>match P.underlying t,cX ids N x,cX ids N y with
   |some (.slice e),some a,some b=>(qaH P e).map fun n => .copy n a b
   |_,_,_=>none
  |.clear,[x],[t]=>match P.underlying t,cX ids N x with
   |some (.slice e),some a=>match qcj P e with
    |some z=>if 0<z.cells.size then some (.clr (qaz z) a) else none
    |none=>none
   |_,_=>none
  |.delete,[m,k],t::_=>match P.underlying t,cX ids N m,cX ids N k with
   |some (.map kt _),some a,some b=>(kdT P kt).map fun kd => .mapdel kd a b
   |_,_,_=>none
  |_,_,_=>none
def qcW:Op->Option O
 |.move x=>(cX ids N x).map .mov
 |.assign x=>(cX ids N x).map .mov
 |.pick c a b=>match cX ids N c,cX ids N a,cX ids N b with
  |some c',some a',some b'=>some (.pick c' a' b')
  |_,_,_=>none
 |.alloc t=>(qcj P t).map fun z => .alloc (qaz z)
 |.box t x=>match ids.own,ids.ty t with
  |true,some u=>(cX ids N x).map (.boxT u)
  |_,_=>(cX ids N x).map .box
 |.build t parts=>match P.underlying t,qcj P t with
  |some (.struct fields),some z=>match qgP P fields.toList with
   |some ps=>(qiw ids N (fun i=>ps[i]?) parts.toList).map (.build (qaz z))
   |none=>none
  |some (.array _ e),some z=>match qaH P e with
   |some n=>(qiw ids N (fun i=>some (i*n,n)) parts.toList).map (.build (qaz z))
   |none=>none
  |_,_=>none
 |.buildSlice t len parts=>match P.underlying t with
  |some (.slice e)=>match qaH P e,qcj P e with
   |some n,some z=>if len*n<=2 ^ 24/\z.cells.size=n/\0<n then (qiw ids N (fun i=>some (i*n,n)) parts.toList).map (fun ps=>if ids.own&&len==1 && !ids.mf then .bsliceO len n (qbU len (qaz z)) ps else .bslice len (qbU len (qaz z)) ps) else none
   |_,_=>none
  |_=>none
 |.load t a=>match qaJ P t,qaH P t,cX ids N a with
  |some true,some n,some x=>some (.load true n x)
  |some false,_,some x=>some (.load false 1 x)
  |_,_,_=>none
 |.store t a v=>match qaH P t,cX ids N a,cX ids N v with
  |some n,some x,some y=>some (.store n x y)
  |_,_,_=>none
 |.nilCheck x=>(cX ids N x).map .nilchk
 |.binOp op t x y _=>match op,P.underlying t,y with
  |.eql,some (.interface _),.const .nilIface=>(cX ids N x).map (.isnil false false)
  |.neq,some (.interface _),.const .nilIface=>(cX ids N x).map (.isnil false true)
  |.eql,some (.pointer _),.const (.pointer none)=>(cX ids N x).map (.isnil true false)
  |.neq,some (.pointer _),.const (.pointer none)=>(cX ids N x).map (.isnil true true)
  |.eql,some (.slice _),.const (.slice none 0 0)=>(cX ids N x).map (.isnils false)
  |.neq,some (.slice _),.const (.slice none 0 0)=>(cX ids N x).map (.isnils true)
  |_,_,_=>match cX ids N x,cX ids N y with
   |some a,some b=>match op,P.underlying t with
    |.eql,some .bool=>some (.eqb false a b)
    |.neq,some .bool=>some (.eqb true a b)
    |.eql,some (.struct _)=>(qet P 20 t).map fun ks => .eqa false ks a b
    |.neq,some (.struct _)=>(qet P 20 t).map fun ks => .eqa true ks a b
    |.eql,some (.array _ _)=>(qet P 20 t).map fun ks => .eqa false ks a b
    |.neq,some (.array _ _)=>(qet P 20 t).map fun ks => .eqa true ks a b
    |.eql,some (.pointer e)=>if qaH P e=none\/qaH P e=some 0 then none else some (.peq false a b)
    |.neq,some (.pointer e)=>if qaH P e=none\/qaH P e=some 0 then none else some (.peq true a b)
    |_,_=>some (.bin op a b)
   |_,_=>none
 |.unOp op _ x=>(cX ids N x).map (.un op)
 |.convert src dst x=>match P.underlying src,P.underlying dst,cX ids N x with
  |some _,some (.int k),some y=>some (.conv (.int k) y)
  |some (.int _),some .string,some y=>some (.conv .intStr y)
  |some .string,some .string,some y=>some (.conv .strStr y)
  |some .string,some (.slice e),some y=>match P.underlying e,qcP P e with
   |some (.int .u8),some 1=>some (.bytes y)
   |_,_=>none
  |some (.slice e),some .string,some y=>match P.underlying e with
   |some (.int .u8)=>some (.bstr y)
   |_=>none
  |some (.pointer e),some .unsafePointer,some y=>if qaH P e=none\/qaH P e=some 0 then none else some (.up y)
  |some .unsafePointer,some (.pointer e),some y=>if qaH P e=none\/qaH P e=some 0 then none else some (.down (qlZ P ids e (List.range P.types.size)) y)
  |_,_,_=>none
 |.fieldAddr s x f=>match P.underlying s,cX ids N x with
  |some (.struct fields),some y=>match fields[f]? with
   |some fd=>if qaH P fd.type=some 0 then none else (qaH P fd.type).map fun _ => .fieldAddr fd.offset y
   |none=>none
  |_,_=>none
 |.field t x f=>match P.underlying t,cX ids N x with
  |some (.struct fields),some y=>match fields[f]? with
   |some fd=>match qaJ P fd.type,qaH P fd.type with
    |some true,some n=>some (.field true fd.offset n y)
    |some false,_=>some (.field false fd.offset 1 y)
    |_,_=>none
   |none=>none
  |_,_=>none
 |.indexAddr t x i=>match P.underlying t,cX ids N x,cX ids N i with
  |some (.slice e),some y,some j=>(qaH P e).map fun n => .indexAddr n y j
  |some (.array len e),some y,some j=>(qaH P e).map fun n => .indexAddrA len n y j
  |_,_,_=>none
 |.index t x i=>match P.underlying t,cX ids N x,cX ids N i with
  |some (.array len e),some y,some j=>match qaJ P e,qaH P e with
   |some true,some n=>some (.indexA true len n y j)
   |some false,some n=>if n=1 then some (.indexA false len 1 y j) else none
   |_,_=>none
  |some .string,some y,some j=>some (.indexS y j)
  |_,_,_=>none
 |.slice t x lo hi mx=>match mx,P.underlying t,cX ids N x,cOX ids N lo,cOX ids N hi with
  |none,some (.slice e),some y,some l,some h=>(qaH P e).map fun n=>if ids.own then .cut n y (if ids.pv e&&(l.isNone&&hiC h) then some (.c (.int .i64 0)) else l) h else .slice n y l h
  |none,some .string,some y,some l,some h=>some (.sliceS y l h)
  |none,some (.array len e),some y,some l,some h=>(qaH P e).map fun n => .sliceA len n y l h
  |some m,some (.slice e),some y,some l,some h=>match qaH P e,cX ids N m with
   |some n,some z=>some (.slice3 n y l h z)
   |_,_=>none
  |_,_,_,_,_=>none
 |.makeInterface t x=>match P.underlying t with
  |some (.interface _)=>none
  |some _=>match ids.ty t with
   |some u=>(cX ids N x).map (.mkif u)
   |none=>none
  |none=>none
 |.makeSlice t x y=>match P.underlying t,cX ids N x,cX ids N y with
  |some (.slice e),some x',some y'=>match qaH P e,qcj P e,qcP P e with
   |some n,some z,some b=>if z.cells.size=n/\0<n then some (.mkslice (ids.own&&isZ x) (qaz z) b x' y') else none
   |_,_,_=>none
  |_,_,_=>none
 |.makeMap t r=>match r,P.underlying t with
  |none,some _=>some .mkmap
  |some h,some (.map _ _)=>(cX ids N h).map .mkmapH
  |_,_=>none
 |.range t x=>match P.underlying t with
  |some (.map _ _)=>(cX ids N x).map .mrange
  |_=>none
 |.next x false=>(cX ids N x).map .mnext
 |.mapUpdate t m k x=>match P.underlying t,cX ids N m,cX ids N k,cX ids N x with
  |some (.map kt _),some a,some b,some c=>(kdT P kt).map fun kd => .mapset kd a b c
  |_,_,_,_=>none
 |.insert t m k x=>match P.underlying t,cX ids N m,cX ids N k,cX ids N x with
  |some (.map kt _),some a,some b,some c=>(kdT P kt).map fun kd => .mapset kd a b c
  |_,_,_,_=>none
 |.lookup t m k ok=>match P.underlying t,cX ids N m,cX ids N k with
  |some (.map kt e),some a,some b=>match kdT P kt,qcj P e with
   |some kd,some z=>some (.lookup kd (toD z) a b ok)
   |_,_=>none
  |_,_,_=>none
 |.makeFunc (.func f) a b=>match ids f,cXs ids N a.toList,cXs ids N b.toList with
  |some g,some as,some bs=>some (.mkfn g as bs)
  |_,_,_=>none
 |.makeFunc (.method name) a b=>match a.toList,b.toList with
  |[x],[]=>(cX ids N x).map (.mkmeth (qko P ids name (List.range P.types.size)))
  |_,_=>none
 |.extract x i=>(cX ids N x).map fun y => .extract y i
 |.call c=>qoN P ids N c
 |.panic x=>(cX ids N x).map .panic
 |_=>none
def cOp(q:Op):Option O:=match qcW P ids N q with
 |some x=>some x
 |none=>some .bad
def qyq(draw:Bool)(o:Oper):Option O:=
 match draw,o.op,o.dst,o.guard with
 |true,.alloc _,some d,none=>some (.fill (N+d))
 |true,.alloc _,_,_=>none
 |true,.makeMap t none,some d,g=>if ids.mf then (match g with|none=>some (.fill (N+d)) | some _=>none) else cOp P ids N (.makeMap t none)
 |_,op,_,_=>cOp P ids N op
def qa6(mf:Bool):List Oper->Option (List (Nat × List D))
 |[]=>some []
 |o::r=>match o.op,o.dst with
  |.alloc t,some d=>match qcj P t,qa6 mf r with
   |some z,some rs=>some ((N+d,qaz z)::rs)
   |_,_=>none
  |.makeMap _ none,some d=>if mf then (match qa6 mf r with
   |some rs=>some ((N+d,[.agg []])::rs)
   |none=>none) else qa6 mf r
  |_,_=>qa6 mf r
def qxV(N:Nat):Option Nat->Bool
 |some d=>decide (d<N)
 |none=>true
def ql0(o:Oper):Option I:=
 match o.op,o.dst,o.guard with
 |.defer c,none,none=>match c.callee with
  |.value x=>match cX ids N x,cXs ids N c.args.toList with
   |some f,some xs=>if ids.df then some ⟨some dkey,.defer f xs,none,[]⟩ else none
   |_,_=>none
  |_=>none
 |_,_,_=>none
def cI(draw:Bool)(ops:Array Oper)(un:Nat->List Nat)(j:Nat)(o:Oper):Option I:=
 match qyq P ids N draw o with
 |some op=>
  if qxV N o.dst then
   match o.guard with
   |none=>some ⟨o.dst,op,none,if op.reads then un j else []⟩
   |some (i,want)=>match (ops[i]?).bind (·.dst) with
    |some d=>if d<N then some ⟨o.dst,op,some (d,want),if op.reads then un j else []⟩ else none
    |none=>none
  else none
 |none=>none
def cIs(draw:Bool)(ops:Array Oper)(un:Nat->List Nat):Nat->List Oper->Option (List I)
 |_,[]=>some []
 |j,o::r=>match (match draw,ql0 ids N o with|false,some i=>some i|_,_=>cI P ids N draw ops un j o),cIs draw ops un (j+1) r with
  |some i,some is=>some (i::is)
  |_,_=>none
def qzc(acc:List (List Nat))(o:Oper):List Nat:=
 o.after.toList.foldl (fun s e=>if Region.binds .any e then e.on::((acc.getD e.on [])++s) else s) []
def qzz:List Oper->List (List Nat)->List (List Nat)
 |[],acc=>acc
 |o::r,acc=>qzz r (acc++[(qzc acc o).eraseDups])
def anc(as:List (List Nat))(i j:Nat):Bool:=(as.getD j []).contains i
def qvd:Op->Bool
 |.box .. | .store .. | .makeMap .. | .mapUpdate .. | .insert .. => true
 |.call { callee := .builtin .append,.. }=>true
 |.call { callee := .builtin .copy,.. }=>true
 |.call { callee := .builtin .clear,.. }=>true
 |.call { callee := .builtin .delete,.. }=>true
 |.call { callee := .builtin _,.. }=>false
 |.call _=>true
 |.range .. | .next .. => true
 |_=>false
def qxW(ops:Array Oper):List Nat:=(List.range ops.size).filter fun i=>match ops[i]? with|some o=>qvd o.op|none=>false
def qzH(ops:Array Oper)(cs:List Nat)(as:List (List Nat))(j:Nat):List Nat:=
 cs.filter fun i => !anc as j i&&(!anc as i j||(match ops[j]? with|some { op := .alloc _,.. }=>true|some { op := .makeMap ..,.. }=>true|_=>false))
def qjx(ops:Array Oper)(is:List I)(as:List (List Nat)):Bool:=
 (List.range ops.size).all fun j=>match ops[j]?,is[j]? with
  |some o,some i=>
   (as.getD j []).all (fun k=>decide (k<j)) &&
   ((o.after.toList.all fun e => !Region.binds .any e||((as.getD j []).contains e.on&&(as.getD e.on []).all fun k=>(as.getD j []).contains k)) &&
   (((as.getD j []).all fun k=>o.after.toList.any fun e=>Region.binds .any e&&(e.on==k||(as.getD e.on []).contains k)) &&
   (List.range ops.size).all fun k=>k==j||(match is[k]? with
    |none=>false
    |some i'=>
     (match i'.dst with|none=>true|some d=>((!i.looks.contains d)||(anc as k j||anc as j k))&&i.dst != some d) &&
     ((!(i.op.chain&&i'.op.chain)||(anc as k j||anc as j k)) &&
     ((!(i.op.reads&&i'.op.chain)||(anc as k j||(anc as j k||i.un.contains k))) &&
     (!(i.op.isFill&&i'.op.chain)||(anc as j k||i.un.contains k)))))))
  |_,_=>false
def qta:Op->Bool
 |.call { callee := .builtin _,.. }=>false
 |.call _=>true
 |_=>false
def qix(ops:Array Oper)(as:List (List Nat)):List Nat:=(List.range ops.size).filter fun p=>(match ops[p]? with|some o=>qta o.op|none=>false)&&(List.range ops.size).all fun i=>decide (i<=p)||(as.getD i []).contains p
def qsz(ops:Array Oper)(as:List (List Nat))(cs:List Nat):Option (List (Nat × List D) × List I):=
 match qa6 P N ids.mf ops.toList,cIs P ids N true ops (qzH ops cs as) 0 ops.toList with
 |some rs,some is=>if qjx ops is as then some (rs,is) else none
 |_,_=>none
variable(K:Nat->List Nat)
def ql1(id:Nat):List Nat:=if ids.df then dkey::K id else K id
def comp:Code->Option PC
 |.skip=>some .skip
 |.region id ops false=>(cIs P ids N false ops (fun _=>[]) 0 ops.toList).map fun is => .region none is (ql1 ids K id)
 |.region id ops true=>
  let as:=qzz ops.toList []
  let cs:=qxW ops
  match qsz P ids N ops as cs with
  |some (rs,is)=>some (.region (some rs) is (ql1 ids K id) (qix ops as))
  |none=>match qsz P { ids with mf:=true } N ops as cs with
   |some (rs,is)=>some (.region (some rs) is (ql1 ids K id) (qix ops as))
   |none=>none
 |.seq a b=>match comp a,comp b with
  |some x,some y=>some (.seq x y)
  |_,_=>none
 |.cond c a b=>match cX ids N c,comp a,comp b with
  |some z,some x,some y=>some (.cond z x y)
  |_,_,_=>none
 |.block id b=>(comp b).map (.block id)
 |.loop b=>(comp b).map .loop
 |.exit id=>some (.exit id)
 |.ret=>some .ret
 |.scope b=>comp b
 |.label _=>some .skip
 |.rangeFunc f ps a b=>match cX ids N f,comp a,comp b with
  |some x,some p,some q=>if (ps.toList.all fun t=>decide (t<N))=true then some (.range x ps.toList p q) else none
  |_,_,_=>none
 |_=>some (.cond (.c .nilIface) .skip .skip)
def qkr(rs:List ResultVar):Option (List PR):=
 match rs with
 |[]=>some []
 |.tmp t::r=>if t<N then (qkr r).map (.tmp t :: ·) else none
 |.cell a t::r=>if a<N then (match qaJ P t,qaH P t,qkr r with
  |some true,some n,some ps=>some (.cell a true n::ps)
  |some false,_,some ps=>some (.cell a false 1::ps)
  |_,_,_=>none) else none
def qrc:List I->Bool
 |[⟨_,.isnil false _ _,none,_⟩]=>true
 |_=>false
def qoO(own df:Bool)(catches:Bool)(N:Nat)(c:Code):Option PC:=
 match catches,c with
 |true,.seq (.region id ops false) rest=>match ops.toList with
  |o::os=>match o.op,o.dst,o.guard,cIs P { ids with own:=own,df:=df } N false ops (fun _=>[]) 1 os,comp P { ids with own:=own,df:=df } N K rest with
   |.call { callee := .builtin .recover,.. },some d,none,some is,some r=>
    if d<N/\qrc is=true then some (.seq (.region none (⟨some d,.recov,none,[]⟩::is) (K id)) r) else none
   |_,_,_,_,_=>none
  |[]=>none
 |true,_=>none
 |false,c=>comp P { ids with own:=own,df:=df } N K c
def compF(ns:Bool × Bool)(own df catches:Bool)(fn:Func):Option PFun:=
 match fn.body with
 |some c=>match qoO P ids K own df catches fn.ntmps c,qkr P fn.ntmps fn.results.toList with
  |some body,some rs=>if fn.params.size+fn.nfree<=fn.ntmps/\2*fn.ntmps<=dkey/\fn.name ≠ "runtime.NumGoroutine" /\ (catches=true->df=false) then some ⟨fn.params.size+fn.nfree,rs,body,ns.1,df,catches,ns.2⟩ else none
  |_,_=>none
 |none=>none
end
end
end Go.Pm
