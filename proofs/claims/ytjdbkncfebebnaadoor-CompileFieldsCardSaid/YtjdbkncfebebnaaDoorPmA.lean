/- The abstract machine: values, stores, instructions, and its run. No program in sight. From the given code to the abstract machine's. -/
import GoSem.Dispatch
import GoSem.Step
import Derived.Laws.Sem
import Derived.Laws.Externs
import Derived.Orders
set_option linter.unusedSimpArgs false
set_option linter.unusedVariables false
section SA
namespace Go.Pm

inductive D where
 | lit (v : Value)
 | sl (cs : List D) (n : Nat) (full : Bool)
 | imm (cs : List D) (o : Nat)
 | agg (cs : List D)
 | iface (t : Nat) (d : D)
 deriving Inhabited

inductive V where
 | dat (d : D)
 | ptr (l o : Nat)
 | gsl (cs : List D) (n sz l : Nat)
 | msl (l o n cap sz : Nat)
 | own (l n sz : Nat)
 | eptr (l n o : Nat)
 | bm (g : Nat) (v : V)
 | agg (cs : List V)
 | fn (f : Nat) (first captured : List V)
 | mp (l : Nat)
 | iface (t : Nat) (v : V)
 | tup (vs : List V)
 | yld (l : Nat)
 | pan (v : V)
 deriving Inhabited

abbrev Fr := List (Nat × V)

abbrev V.lit (v : Value) : V := .dat (.lit v)
abbrev V.int (n : Int) : V := .dat (.lit (.int .i64 n))
abbrev V.bool (b : Bool) : V := .dat (.lit (.bool b))
abbrev V.str (s : ByteArray) : V := .dat (.lit (.string s))

def Fr.get : Fr -> Nat -> Option V
 | [], _ => none
 | (k, v) :: r, t => if k = t then some v else Fr.get r t
def Fr.put (fr : Fr) : Option Nat -> V -> Fr
 | none, _ => fr
 | some d, v => (d, v) :: fr
def Fr.keep (fr : Fr) : List Nat -> Fr
 | [] => []
 | k :: ks => match fr.get k with
   | some v => (k, v) :: Fr.keep fr ks
   | none => Fr.keep fr ks

inductive X where
 | t (n : Nat)
 | c (v : Value)
 | f (id : Nat)
 | g (cs : List D)
 deriving Inhabited
def X.ev (fr : Fr) : X -> Option V
 | .t n => fr.get n
 | .c v => some (.dat (.lit v))
 | .f id => some (.fn id [] [])
 | .g cs => some (.dat (.imm cs 0))
def evs (fr : Fr) : List X -> Option (List V)
 | [] => some []
 | x :: r => match x.ev fr, evs fr r with
   | some v, some vs => some (v :: vs)
   | _, _ => none

inductive CK where
 | int (k : IntKind)
 | intStr
 | strStr
 deriving Inhabited

inductive KD where
 | b | i | s
 deriving DecidableEq, Inhabited
inductive LK where
 | str | sl | mp
 deriving DecidableEq, Inhabited

inductive O where
 | mov (x : X)
 | pick (c a b : X)
 | alloc (zero : List D)
 | box (x : X)
 | build (zero : List D) (parts : List (Nat × Nat × X))
 | bslice (n : Nat) (zero : List D) (parts : List (Nat × Nat × X))
 | bsliceO (n sz : Nat) (zero : List D) (parts : List (Nat × Nat × X))
 | load (agg : Bool) (n : Nat) (a : X)
 | store (n : Nat) (a x : X)
 | nilchk (x : X)
 | bin (op : BinOp) (x y : X)
 | eqb (neg : Bool) (x y : X)
 | eqa (neg : Bool) (kds : List KD) (x y : X)
 | isnil (p neg : Bool) (x : X)
 | mkif (t : Nat) (x : X)
 | mkmeth (tbl : List (Nat × Nat)) (x : X)
 | bytes (x : X)
 | un (op : UnOp) (x : X)
 | conv (k : CK) (x : X)
 | fieldAddr (off : Nat) (x : X)
 | field (agg : Bool) (off n : Nat) (x : X)
 | indexAddr (sz : Nat) (x i : X)
 | indexAddrA (len sz : Nat) (x i : X)
 | indexA (agg : Bool) (len sz : Nat) (x i : X)
 | indexS (x i : X)
 | slice (sz : Nat) (x : X) (lo hi : Option X)
 | sliceS (x : X) (lo hi : Option X)
 | len (k : LK) (x : X)
 | min (xs : List X)
 | max (xs : List X)
 | append (sz bytes : Nat) (s x : X)
 | appendO (sz bytes : Nat) (s x : X)
 | cut (sz : Nat) (x : X) (lo hi : Option X)
 | mkmap
 | mkslice (own : Bool) (zero : List D) (bytes : Nat) (len cap : X)
 | mapset (kd : KD) (m k v : X)
 | lookup (kd : KD) (zero : D) (m k : X) (ok : Bool)
 | mkfn (f : Nat) (first captured : List X)
 | extract (x : X) (i : Nat)
 | call (f : Nat) (args : List X)
 | callv (f : X) (args : List X)
 | invoke (tbl : List (Nat × Nat)) (x : X) (args : List X)
 | defer (f : X) (args : List X)
 | panic (x : X)
 | recov
 | boxT (t : Nat) (x : X)
 | appendT (t sz bytes : Nat) (s x : X)
 | up (x : X)
 | down (ts : List (Nat × Nat)) (x : X)
 | peq (neg : Bool) (x y : X)
 | usd (x : X)
 | ustr (ts : List Nat) (x n : X)
 | bstr (x : X)
 | sliceA (len sz : Nat) (x : X) (lo hi : Option X)
 | idxb (s c : X)
 | fill (k : Nat)
 deriving Inhabited

structure I where
 dst : Option Nat
 op : O
 guard : Option (Nat × Bool)
 un : List Nat := []
 deriving Inhabited

inductive PC where
 | skip
 | region (draw : Option (List (Nat × List D))) (ops : List I) (keep : List Nat) (lasts : List Nat := [])
 | seq (a b : PC)
 | cond (c : X) (a b : PC)
 | block (id : Nat) (b : PC)
 | loop (b : PC)
 | exit (id : Nat)
 | ret
 | range (f : X) (ps : List Nat) (assign body : PC)
 deriving Inhabited

inductive Ex where
 | normal
 | exit (id : Nat)
 | ret
 | pan (v : V)
 deriving Inhabited

structure Lp where
 fr : Fr
 ps : List Nat
 assign : PC
 body : PC
 st : Nat
 pend : Option Ex
 deriving Inhabited

inductive Ob where
 | cells (cs : List V)
 | map (es : List (Value × V))
 | tip (n : Nat)
 | loop (lp : Lp)
 | vec (cs : List V)
 | cellsT (t : Nat) (cs : List V)
 | vecT (t : Nat) (cs : List V)
 | froz (cs : List D)
 | dead
 deriving Inhabited

abbrev S := List Ob

inductive PR where
 | tmp (t : Nat)
 | cell (t : Nat) (agg : Bool) (n : Nat)
 deriving Inhabited

structure PFun where
 np : Nat
 results : List PR
 body : PC
 noseal : Bool := false
 df : Bool := false
 catches : Bool := false
 deriving Inhabited

inductive Task where
 | call (f : Nat) (args : List V) (σ : S)
 | dcall (f : Nat) (args : List V) (σ : S)
 | loop (k : Nat) (body : PC) (fr : Fr) (σ : S)
 | round (args : List V) (σ : S)
 deriving Inhabited
inductive Res where
 | ret (v : V) (σ : S)
 | out (e : Ex) (fr : Fr) (σ : S)
 deriving Inhabited

/-! ## values -/
def allDat : List V -> Option (List D)
 | [] => some []
 | .dat d :: r => match allDat r with
   | some ds => some (d :: ds)
   | none => none
 | _ :: _ => none
def V.cells : V -> List V
 | .dat (.agg cs) => cs.map .dat
 | .agg cs => cs
 | v => [v]
def V.aggCells : V -> Option (List V)
 | .dat (.agg cs) => some (cs.map .dat)
 | .agg cs => some cs
 | _ => none
def V.one : V -> Bool
 | .dat (.lit v) => v.oneCell'
 | .dat (.agg _) => false
 | .agg _ => false
 | .tup _ => false
 | _ => true
def mkAgg (vs : List V) : V :=
 match allDat vs with
 | some ds => .dat (.agg ds)
 | none => .agg vs

mutual
def V.locs : V -> List Nat
 | .dat _ => []
 | .ptr l _ => [l]
 | .gsl _ _ _ l => [l]
 | .msl l _ _ _ _ => [l]
 | .own l _ _ => [l]
 | .eptr l _ _ => [l]
 | .bm _ v => v.locs
 | .agg cs => locsL cs
 | .fn _ a b => locsL a ++ locsL b
 | .mp l => [l]
 | .iface _ v => v.locs
 | .tup vs => locsL vs
 | .yld l => [l]
 | .pan v => v.locs
def locsL : List V -> List Nat
 | [] => []
 | v :: r => v.locs ++ locsL r
end
mutual
def V.ren (r : Nat -> Nat) : V -> V
 | .dat d => .dat d
 | .ptr l o => .ptr (r l) o
 | .gsl cs n sz l => .gsl cs n sz (r l)
 | .msl l o n cap sz => .msl (r l) o n cap sz
 | .own l n sz => .own (r l) n sz
 | .eptr l n o => .eptr (r l) n o
 | .bm g v => .bm g (v.ren r)
 | .agg cs => .agg (renL r cs)
 | .fn f a b => .fn f (renL r a) (renL r b)
 | .mp l => .mp (r l)
 | .iface t v => .iface t (v.ren r)
 | .tup vs => .tup (renL r vs)
 | .yld l => .yld (r l)
 | .pan v => .pan (v.ren r)
def renL (r : Nat -> Nat) : List V -> List V
 | [] => []
 | v :: vs => v.ren r :: renL r vs
end
def locsE : List (Value × V) -> List Nat
 | [] => []
 | (_, v) :: r => v.locs ++ locsE r
def renE (r : Nat -> Nat) : List (Value × V) -> List (Value × V)
 | [] => []
 | (k, v) :: es => (k, v.ren r) :: renE r es
def locsF : Fr -> List Nat
 | [] => []
 | (_, v) :: r => v.locs ++ locsF r
def renF (r : Nat -> Nat) : Fr -> Fr
 | [] => []
 | (k, v) :: es => (k, v.ren r) :: renF r es
def Ob.locs : Ob -> List Nat
 | .cells cs => locsL cs
 | .map es => locsE es
 | .tip _ => []
 | .loop lp => locsF lp.fr
 | .vec cs => locsL cs
 | .cellsT _ cs => locsL cs
 | .vecT _ cs => locsL cs
 | .froz _ => []
 | .dead => []
def Ob.ren (r : Nat -> Nat) : Ob -> Ob
 | .cells cs => .cells (renL r cs)
 | .map es => .map (renE r es)
 | .tip n => .tip n
 | .loop lp => .loop { lp with fr := renF r lp.fr }
 | .vec cs => .vec (renL r cs)
 | .cellsT t cs => .cellsT t (renL r cs)
 | .vecT t cs => .vecT t (renL r cs)
 | .froz cs => .froz cs
 | .dead => .dead

def V.sealv : V -> V
 | .gsl cs n _ _ => .dat (.sl cs n false)
 | v => v
def sealL : List V -> List V
 | [] => []
 | v :: r => v.sealv :: sealL r
def V.sealT : V -> V
 | .agg cs => mkAgg (sealL cs)
 | v => v.sealv
def sealTL : List V -> List V
 | [] => []
 | v :: r => v.sealT :: sealTL r

def Ob.rows : Ob -> Option (List V)
 | .vec cs => some cs
 | .vecT _ cs => some cs
 | .froz ds => some (ds.map .dat)
 | _ => none
def frzV (σ : S) : V -> V × S
 | .own l n sz => match σ[l]? with
   | some (.vec cs) => if cs.length = n * sz then (match allDat cs with
     | some ds => (.dat (.sl ds n false), σ.set l (.froz ds))
     | none => (.own l n sz, σ)) else (.own l n sz, σ)
   | some (.froz ds) => if ds.length = n * sz then (.dat (.sl ds n false), σ) else (.own l n sz, σ)
   | _ => (.own l n sz, σ)
 | .gsl cs n _ _ => (.dat (.sl cs n false), σ)
 | v => (v, σ)
def frzL (σ : S) : List V -> List V × S
 | [] => ([], σ)
 | v :: r => ((frzV σ v).1 :: (frzL (frzV σ v).2 r).1, (frzL (frzV σ v).2 r).2)
def frzT (σ : S) : V -> V × S
 | .agg cs => (mkAgg (frzL σ cs).1, (frzL σ cs).2)
 | v => frzV σ v
def frzTL (σ : S) : List V -> List V × S
 | [] => ([], σ)
 | v :: r => ((frzT σ v).1 :: (frzTL (frzT σ v).2 r).1, (frzTL (frzT σ v).2 r).2)
def outV (k : Nat) (σ : S) : V -> V × List Nat
 | .own l n sz => if k <= l then (match σ[l]? with
   | some (.vec cs) => if cs.length = n * sz then (match allDat cs with
     | some ds => (.dat (.sl ds n false), [l])
     | none => (.own l n sz, [])) else (.own l n sz, [])
   | some (.froz ds) => if ds.length = n * sz then (.dat (.sl ds n false), []) else (.own l n sz, [])
   | _ => (.own l n sz, [])) else (.own l n sz, [])
 | .msl l o n cap sz => if k <= l then (match σ[l]? with
   | some (.cells cs) => match allDat cs with
     | some ds => if o + n * sz <= ds.length /\ (ds.all fun d => V.one (.dat d)) = true then (.dat (.sl ((ds.drop o).take (n * sz)) n false), [l]) else (.msl l o n cap sz, [])
     | none => (.msl l o n cap sz, [])
   | _ => (.msl l o n cap sz, [])) else (.msl l o n cap sz, [])
 | .gsl cs n _ _ => (.dat (.sl cs n false), [])
 | v => (v, [])
def outL (k : Nat) (σ : S) : List V -> List V × List Nat
 | [] => ([], [])
 | v :: r => ((outV k σ v).1 :: (outL k σ r).1, (outV k σ v).2 ++ (outL k σ r).2)
def outT (k : Nat) (σ : S) : V -> V × List Nat
 | .agg cs => (mkAgg (outL k σ cs).1, (outL k σ cs).2)
 | v => outV k σ v
def outTL (k : Nat) (σ : S) : List V -> List V × List Nat
 | [] => ([], [])
 | v :: r => ((outT k σ v).1 :: (outTL k σ r).1, (outT k σ v).2 ++ (outTL k σ r).2)
def repl {α : Type} : Nat -> List α -> List α
 | 0, _ => []
 | n + 1, l => l ++ repl n l
def argS (f : Nat) (vs : List V) (σ : S) : List V × S := if f < 1000 then frzTL σ vs else (vs, σ)
/-! ## small stores -/
def reach (σ : S) : Nat -> List Nat -> List Nat -> List Nat
 | _, [], seen => seen
 | 0, _, seen => seen
 | n + 1, l :: todo, seen =>
   if seen.contains l then reach σ n todo seen
   else reach σ n (todo ++ (match σ[l]? with | some ob => ob.locs | none => [])) (seen ++ [l])
def idx : List Nat -> Nat -> Nat
 | [], _ => 0
 | k :: ks, l => if k = l then 0 else idx ks l + 1
def nodupB : List Nat -> Bool
 | [] => true
 | k :: ks => !ks.contains k && nodupB ks
def inL (L : List Nat) : List Nat -> Bool
 | [] => true
 | k :: ks => L.contains k && inL L ks
def getObs (σ : S) : List Nat -> Option (List Ob)
 | [] => some []
 | l :: ls => match σ[l]?, getObs σ ls with
   | some ob, some obs => some (ob :: obs)
   | _, _ => none
def closed (L : List Nat) : List Ob -> Bool
 | [] => true
 | ob :: r => inL L ob.locs && closed L r
def restrict (L : List Nat) (vs : List V) (σ : S) : Option (List V × S) :=
 match getObs σ L with
 | some obs => if nodupB L && (inL L (locsL vs) && closed L obs) then some (renL (idx L) vs, obs.map (Ob.ren (idx L))) else none
 | none => none
def back (L : List Nat) (n : Nat) (i : Nat) : Nat :=
 match L[i]? with
 | some l => l
 | none => n + (i - L.length)
def writeBack (σ : S) : List Nat -> List Ob -> S
 | l :: ls, ob :: obs => writeBack (σ.set l ob) ls obs
 | _, obs => σ ++ obs
def doCall (C : Task -> Option Res) (mk : List V -> S -> Task) (args : List V) (σ : S) : Option (V × S) :=
 let L := reach σ 100000 (locsL args) []
 match restrict L args σ with
 | some (args', σs) =>
   match C (mk args' σs) with
   | some (.ret (.pan _) _) => none
   | some (.ret v σs') => some (v.ren (back L σ.length), writeBack σ L (σs'.map (Ob.ren (back L σ.length))))
   | _ => none
 | none => none
def doCallP (C : Task -> Option Res) (mk : List V -> S -> Task) (args : List V) (σ : S) : Option (V × S) :=
 let L := reach σ 100000 (locsL args) []
 match restrict L args σ with
 | some (args', σs) =>
   match C (mk args' σs) with
   | some (.ret (.pan v) σs') => some (v.ren (back L σ.length), writeBack σ L (σs'.map (Ob.ren (back L σ.length))))
   | _ => none
 | none => none
def dkey : Nat := 1000000
def rkey : Nat := 1000001
def Fr.defs (fr : Fr) : List V := match fr.get dkey with
 | some (.tup l) => l
 | _ => []
def Fr.noD (fr : Fr) : Fr := fr.filter fun p => p.1 != dkey

/-! ## operations on data -/
def eqS (a b : ByteArray) : Bool := a.toList == b.toList
def eqI (a b : Int) : Bool := a == b
def bitI (k : IntKind) (op : BitVec k.bits -> BitVec k.bits -> BitVec k.bits) (a b : Int) : Int := k.wrap (op (BitVec.ofInt k.bits a) (BitVec.ofInt k.bits b)).toNat
def shlI (k : IntKind) (a b : Int) : Int := k.wrap (a * 2 ^ min b.toNat k.bits)
def shrI (k : IntKind) (a b : Int) : Int := a.fdiv (2 ^ min b.toNat k.bits)
def binV : BinOp -> Value -> Value -> Option Value
 | op, .int k a, .int k' b =>
   if k = k' then
     match op with
     | .add => some (.int k (k.wrap (a + b)))
     | .sub => some (.int k (k.wrap (a - b)))
     | .mul => some (.int k (k.wrap (a * b)))
     | .quo => if b = 0 then none else some (.int k (k.wrap (a.tdiv b)))
     | .rem => if b = 0 then none else some (.int k (a.tmod b))
     | .eql => some (.bool (eqI a b))
     | .neq => some (.bool (!eqI a b))
     | .lss => some (.bool (a < b))
     | .leq => some (.bool (a <= b))
     | .gtr => some (.bool (a > b))
     | .geq => some (.bool (a ≥ b))
     | .and => some (.int k (bitI k (· &&& ·) a b))
     | .or => some (.int k (bitI k (· ||| ·) a b))
     | .xor => some (.int k (bitI k (· ^^^ ·) a b))
     | .andNot => some (.int k (bitI k (fun x y => x &&& ~~~y) a b))
     | .shl => if b < 0 then none else some (.int k (shlI k a b))
     | .shr => if b < 0 then none else some (.int k (shrI k a b))
   else match op with
     | .shl => if b < 0 then none else some (.int k (shlI k a b))
     | .shr => if b < 0 then none else some (.int k (shrI k a b))
     | _ => none
 | op, .string a, .string b =>
   match op with
   | .add => if ((a.size + b.size : Nat) : Int) > IntKind.i64.max then none else some (.string (a ++ b))
   | .eql => some (.bool (eqS a b))
   | .neq => some (.bool (!eqS a b))
   | .lss => some (.bool (Op.bytesLess a.toList b.toList))
   | .leq => some (.bool (Op.bytesLess a.toList b.toList || a.toList == b.toList))
   | .gtr => some (.bool (!(Op.bytesLess a.toList b.toList || a.toList == b.toList)))
   | .geq => some (.bool (!Op.bytesLess a.toList b.toList))
   | _ => none
 | _, _, _ => none
def nilV : Bool -> V -> Option Bool
 | true, .ptr _ _ => some false
 | true, .dat (.imm _ _) => some false
 | true, .dat (.lit (.pointer none)) => some true
 | false, .iface _ _ => some false
 | false, .dat (.lit .nilIface) => some true
 | _, _ => none
def eqLit : KD -> Value -> Value -> Option Bool
 | .i, .int k a, .int k' b => if k = k' then some (eqI a b) else none
 | .s, .string a, .string b => some (eqS a b)
 | .b, .bool a, .bool b => some (a == b)
 | _, _, _ => none
def eqLits : List KD -> List D -> List D -> Option Bool
 | [], [], [] => some true
 | k :: ks, .lit a :: as, .lit b :: bs => match eqLit k a b, eqLits ks as bs with
   | some x, some y => some (x && y)
   | _, _ => none
 | _, _, _ => none
def bytesD (s : ByteArray) : List D := s.data.toList.map fun b => .lit (.int .u8 b.toNat)
def unV : UnOp -> Value -> Option Value
 | .neg, .int k n => some (.int k (k.wrap (0 - n)))
 | .not, .bool b => some (.bool !b)
 | .xor, .int k n => some (.int k (bitI k (· ^^^ ·) (if k.signed then -1 else k.max) n))
 | _, _ => none
def convV : CK -> Value -> Option Value
 | .int k, .int _ n => some (.int k (k.wrap n))
 | .intStr, .int _ n => some (.string (Utf8.encode n))
 | .strStr, .string s => some (.string s)
 | _, _ => none
def V.len (σ : S) : LK -> V -> Option Int
 | .sl, .dat (.lit (.slice _ n _)) => some n
 | .str, .dat (.lit (.string s)) => some s.size
 | .sl, .dat (.sl _ n _) => some n
 | .sl, .gsl _ n _ _ => some n
 | .sl, .msl _ _ n _ _ => some n
 | .sl, .own _ n _ => some n
 | .mp, .mp l => match σ[l]? with
   | some (.map es) => some es.length
   | _ => none
 | _, _ => none
def fillV : List V -> List (Nat × Nat × V) -> Option (List V)
 | cs, [] => some cs
 | cs, (off, size, v) :: r =>
   let new := v.cells
   if new.length = size /\ off + size <= cs.length /\ new.all V.one then fillV (cs.take off ++ (new ++ cs.drop (off + size))) r else none
def evParts (fr : Fr) : List (Nat × Nat × X) -> Option (List (Nat × Nat × V))
 | [] => some []
 | (o, s, x) :: r => match x.ev fr, evParts fr r with
   | some v, some vs => some ((o, s, v) :: vs)
   | _, _ => none
def cutCells {α : Type} (cs : List α) (o n : Nat) : Option (List α) :=
 let r := (cs.drop o).take n
 if r.length = n then some r else none
def ofCells (agg : Bool) (vs : List V) : Option V :=
 if agg then some (mkAgg vs) else match vs with
   | [v] => some v
   | _ => none
def ofDs (agg : Bool) (ds : List D) : Option V :=
 if agg then some (.dat (.agg ds)) else match ds with
   | [d] => some (.dat d)
   | _ => none
def loadV (σ : S) (agg : Bool) (n : Nat) : V -> Option V
 | .ptr l o => match σ[l]? with
   | some (.cells cs) => match cutCells cs o n with
     | some vs => ofCells agg vs
     | none => none
   | some (.cellsT _ cs) => match cutCells cs o n with
     | some vs => ofCells agg vs
     | none => none
   | _ => none
 | .dat (.imm cs o) => match cutCells cs o n with
   | some ds => ofDs agg ds
   | none => none
 | .eptr l m o => match σ[l]? with
   | some (.vec cs) => if cs.length = m then (match cutCells cs o n with
     | some vs => ofCells agg vs
     | none => none) else none
   | some (.froz ds) => if ds.length = m then (match cutCells ds o n with
     | some vs => ofDs agg vs
     | none => none) else none
   | _ => none
 | _ => none
def storeV (σ : S) (n : Nat) : V -> V -> Option S
 | .ptr l o, v => match σ[l]? with
   | some (.cells cs) =>
     let new := v.cells
     if new.length = n /\ o + n <= cs.length /\ new.all V.one then some (σ.set l (.cells (cs.take o ++ (new ++ cs.drop (o + n))))) else none
   | some (.cellsT t cs) =>
     let new := v.cells
     if new.length = n /\ o + n <= cs.length /\ new.all V.one then some (σ.set l (.cellsT t (cs.take o ++ (new ++ cs.drop (o + n))))) else none
   | _ => none
 | .eptr l m o, v => match σ[l]? with
   | some (.vec cs) =>
     let new := v.cells
     if cs.length = m /\ new.length = n /\ o + n <= cs.length /\ new.all V.one then some (σ.set l (.vec (cs.take o ++ (new ++ cs.drop (o + n))))) else none
   | _ => none
 | _, _ => none
def addrAdd (k : Nat) : V -> Option V
 | .ptr l o => some (.ptr l (o + k))
 | .dat (.imm cs o) => some (.dat (.imm cs (o + k)))
 | .eptr l n o => some (.eptr l n (o + k))
 | _ => none
def sliceAddr (sz : Nat) : V -> Int -> Option V
 | .dat (.sl cs n _), i => if 0 <= i /\ i < n then some (.dat (.imm cs (i.toNat * sz))) else none
 | .gsl cs n _ _, i => if 0 <= i /\ i < n then some (.dat (.imm cs (i.toNat * sz))) else none
 | .msl l o n _ _, i => if 0 <= i /\ i < n then some (.ptr l (o + i.toNat * sz)) else none
 | .own l n sz', i => if 0 <= i /\ i < n /\ sz' = sz then some (.eptr l (n * sz) (i.toNat * sz)) else none
 | _, _ => none
def bound (x : Option V) (d most : Nat) : Option Nat :=
 match x with
 | none => some d
 | some (.dat (.lit (.int _ i))) => if 0 <= i /\ i <= most then some i.toNat else none
 | _ => none
def sliceV (sz : Nat) (lo hi : Option V) : V -> Option V
 | .dat (.lit (.slice a 0 0)) =>
   match bound hi 0 0 with
   | some h => match bound lo 0 h with
     | some _ => some (.dat (.lit (.slice a 0 0)))
     | none => none
   | none => none
 | .dat (.sl cs n _) =>
   match bound hi n n with
   | some h => match bound lo 0 h with
     | some l => if cs.length = n * sz then some (.dat (.sl ((cs.drop (l * sz)).take ((h - l) * sz)) (h - l) false)) else none
     | none => none
   | none => none
 | .gsl cs n _ _ =>
   match bound hi n n with
   | some h => match bound lo 0 h with
     | some l => if cs.length = n * sz then some (.dat (.sl ((cs.drop (l * sz)).take ((h - l) * sz)) (h - l) false)) else none
     | none => none
   | none => none
 | .msl l o n cap sz' =>
   match bound hi n n with
   | some h => match bound lo 0 h with
     | some k => if sz' = sz then some (.msl l (if cap = k then o else o + k * sz) (h - k) (cap - k) sz) else none
     | none => none
   | none => none
 | _ => none
def cutV (σ : S) (sz : Nat) (lo hi : Option V) : V -> Option (V × S)
 | .own l n sz' => match σ[l]? with
   | some (.vec cs) => match bound hi n n with
     | some h => match bound lo 0 h with
       | some 0 => if sz' = sz /\ cs.length = n * sz then some (.own σ.length h sz, σ.set l .dead ++ [.vec (cs.take (h * sz))]) else none
       | _ => none
     | none => none
   | _ => none
 | v => match sliceV sz lo hi v with
   | some u => some (u, σ)
   | none => none
def sliceSV (lo hi : Option V) : V -> Option V
 | .dat (.lit (.string s)) =>
   match bound hi s.size s.size with
   | some h => match bound lo 0 h with
     | some l => some (.dat (.lit (.string (s.extract l h))))
     | none => none
   | none => none
 | _ => none
def srcV : V -> Option (List D × Nat)
 | .dat (.lit (.slice _ 0 0)) => some ([], 0)
 | .dat (.sl cs n _) => some (cs, n)
 | .gsl cs n _ _ => some (cs, n)
 | .dat (.lit (.string s)) => some (bytesD s, s.size)
 | _ => none
def srcO (σ : S) : V -> Option (List V × Nat)
 | .dat (.lit (.slice _ 0 0)) => some ([], 0)
 | .dat (.sl cs n _) => some (cs.map .dat, n)
 | .gsl cs n _ _ => some (cs.map .dat, n)
 | .dat (.lit (.string s)) => some ((bytesD s).map .dat, s.size)
 | .own l n sz => match σ[l]? with
   | some (.vec cs) => if cs.length = n * sz then some (cs, n) else none
   | some (.froz ds) => if ds.length = n * sz then some (ds.map .dat, n) else none
   | _ => none
 | .msl l o n _ sz => match σ[l]? with
   | some (.cells cs) => if o + n * sz <= cs.length then some ((cs.drop o).take (n * sz), n) else none
   | _ => none
 | _ => none
def roomFor (n bytes : Nat) : Bool := (2 * n + 192) * (bytes + 1) <= 2 ^ 48
def appendV (σ : S) (sz bytes : Nat) (s x : V) : Option (V × S) :=
 match srcV x with
 | none => none
 | some (xs, m) =>
   if xs.length = m * sz /\ 0 < sz then
     if m = 0 then (match s with
       | .dat (.lit (.slice none 0 0)) | .dat (.sl _ _ _) | .gsl _ _ _ _ => some (s, σ)
       | _ => none)
     else match s with
       | .dat (.lit (.slice none 0 0)) => if roomFor m bytes then some (.gsl xs m sz σ.length, σ ++ [.tip xs.length]) else none
       | .dat (.sl cs n true) =>
         if roomFor (n + m) bytes /\ cs.length = n * sz then some (.gsl (cs ++ xs) (n + m) sz σ.length, σ ++ [.tip (cs ++ xs).length]) else none
       | .gsl cs n sz' l =>
         match σ[l]? with
         | some (.tip k) =>
           if roomFor (n + m) bytes /\ cs.length = n * sz /\ sz' = sz /\ k = cs.length then
             some (.gsl (cs ++ xs) (n + m) sz l, σ.set l (.tip (cs ++ xs).length)) else none
         | _ => none
       | _ => none
   else none
def appendO (σ : S) (sz bytes : Nat) (s x : V) : Option (V × S) :=
 match srcO σ x with
 | none => none
 | some (xs, m) =>
   if xs.length = m * sz /\ 0 < sz /\ xs.all V.one = true then
     if m = 0 then (match s with
       | .dat (.lit (.slice none 0 0)) | .dat (.sl _ _ _) | .own _ _ _ => some (s, σ)
       | _ => none)
     else match s with
       | .dat (.lit (.slice none 0 0)) => if roomFor m bytes then some (.own σ.length m sz, σ ++ [.vec xs]) else none
       | .dat (.sl cs n true) =>
         if roomFor (n + m) bytes /\ cs.length = n * sz then some (.own σ.length (n + m) sz, σ ++ [.vec (cs.map .dat ++ xs)]) else none
       | .own l n sz' =>
         match σ[l]? with
         | some (.vec cs) =>
           if roomFor (n + m) bytes /\ cs.length = n * sz /\ sz' = sz then
             some (.own l (n + m) sz, σ.set l (.vec (cs ++ xs))) else none
         | _ => none
       | _ => none
   else none
def appendT (σ : S) (t sz bytes : Nat) (s x : V) : Option (V × S) :=
 match srcO σ x with
 | none => none
 | some (xs, m) =>
   if xs.length = m * sz /\ 0 < sz /\ xs.all V.one = true then
     if m = 0 then (match s with
       | .dat (.lit (.slice none 0 0)) | .dat (.sl _ _ _) | .own _ _ _ => some (s, σ)
       | _ => none)
     else match s with
       | .dat (.lit (.slice none 0 0)) => if roomFor m bytes then some (.own σ.length m sz, σ ++ [.vecT t xs]) else none
       | .own l n sz' =>
         match σ[l]? with
         | some (.vecT t' cs) =>
           if roomFor (n + m) bytes /\ cs.length = n * sz /\ sz' = sz /\ t' = t then
             some (.own l (n + m) sz, σ.set l (.vecT t (cs ++ xs))) else none
         | _ => none
       | _ => none
   else none
def toBytes : List V -> Option (List UInt8)
 | [] => some []
 | .dat (.lit (.int .u8 n)) :: r => if 0 <= n /\ n < 256 then (match toBytes r with
   | some bs => some (UInt8.ofNat n.toNat :: bs)
   | none => none) else none
 | _ => none
def V.isStr : V -> Bool
 | .dat (.lit (.string _)) => true
 | _ => false
def bstrV (σ : S) (v : V) : Option V := match srcO σ v with
 | some (xs, m) => if xs.length = m /\ v.isStr = false then (match toBytes xs with
   | some bs => some (.str ⟨bs.toArray⟩)
   | none => none) else none
 | none => none
def sliceAV (len sz : Nat) (lo hi : Option V) : V -> Option V
 | .ptr l o => match bound hi len len with
   | some h => match bound lo 0 h with
     | some k => some (.msl l (if len = k then o else o + k * sz) (h - k) (len - k) sz)
     | none => none
   | none => none
 | _ => none
def keyOk : KD -> Value -> Bool
 | .s, .string _ | .i, .int _ _ | .b, .bool _ => true
 | _, _ => false
def sameKey : KD -> Value -> Value -> Option Bool
 | .i, .int k a, .int k' b => if k = k' then some (a == b) else none
 | .s, .string a, .string b => some (a == b)
 | .b, .bool a, .bool b => some (a == b)
 | _, _, _ => none
def findE (kd : KD) (k : Value) : List (Value × V) -> Option (Option V)
 | [] => some none
 | (k', v) :: r => match sameKey kd k k' with
   | some true => some (some v)
   | some false => findE kd k r
   | none => none
def setE (kd : KD) (k : Value) (v : V) : List (Value × V) -> Option (List (Value × V))
 | [] => some [(k, v)]
 | (k', v') :: r => match sameKey kd k k' with
   | some true => some ((k, v) :: r)
   | some false => match setE kd k v r with
     | some r' => some ((k', v') :: r')
     | none => none
   | none => none
def minI : Value -> List Value -> Option Value
 | x, [] => some x
 | .int k x, .int _ y :: r => minI (.int k (if y < x then y else x)) r
 | _, _ => none
def maxI : Value -> List Value -> Option Value
 | x, [] => some x
 | .int k x, .int _ y :: r => maxI (.int k (if x < y then y else x)) r
 | _, _ => none
def lits : List V -> Option (List Value)
 | [] => some []
 | .dat (.lit v) :: r => match lits r with
   | some vs => some (v :: vs)
   | none => none
 | _ => none
def optEv (fr : Fr) : Option X -> Option (Option V)
 | none => some none
 | some x => match x.ev fr with
   | some v => some (some v)
   | none => none

def runO (C : Task -> Option Res) (fr : Fr) (σ : S) : O -> Option (V × S)
 | .mov x => match x.ev fr with
   | some v => some (v, σ)
   | none => none
 | .pick c a b => match c.ev fr with
   | some (.dat (.lit (.bool true))) => (match a.ev fr with | some v => some (v, σ) | none => none)
   | some (.dat (.lit (.bool false))) => (match b.ev fr with | some v => some (v, σ) | none => none)
   | _ => none
 | .alloc zero => some (.ptr σ.length 0, σ ++ [.cells (zero.map .dat)])
 | .box x => match x.ev fr with
   | some v => if v.cells.all V.one then some (.ptr σ.length 0, σ ++ [.cells v.cells]) else none
   | none => none
 | .build zero parts => match evParts fr parts with
   | some ps => match fillV (zero.map .dat) ps with
     | some cs => some (mkAgg cs, σ)
     | none => none
   | none => none
 | .bslice n zero parts => match evParts fr parts with
   | some ps => match fillV (zero.map .dat) ps with
     | some cs => match allDat cs with
       | some ds => some (.dat (.sl ds n true), σ)
       | none => none
     | none => none
   | none => none
 | .bsliceO n sz zero parts => match evParts fr parts with
   | some ps => match fillV (zero.map .dat) ps with
     | some cs => match allDat cs with
       | some _ => some (.own σ.length n sz, σ ++ [.vec cs])
       | none => none
     | none => none
   | none => none
 | .load agg n a => match a.ev fr with
   | some p => match loadV σ agg n p with
     | some v => some (v, σ)
     | none => none
   | none => none
 | .store n a x => match a.ev fr, x.ev fr with
   | some p, some v => match storeV σ n p v with
     | some σ' => some (.dat (.lit undef), σ')
     | none => none
   | _, _ => none
 | .nilchk x => match x.ev fr with
   | some (.ptr l o) => some (.ptr l o, σ)
   | some (.dat (.imm cs o)) => some (.dat (.imm cs o), σ)
   | some (.eptr l n o) => some (.eptr l n o, σ)
   | some (.bm g (.ptr l o)) => some (.bm g (.ptr l o), σ)
   | _ => none
 | .bin op x y => match x.ev fr, y.ev fr with
   | some (.dat (.lit a)), some (.dat (.lit b)) => match binV op a b with
     | some v => some (.dat (.lit v), σ)
     | none => none
   | _, _ => none
 | .isnil p neg x => match x.ev fr with
   | some v => match nilV p v with
     | some b => some (.bool (if neg then !b else b), σ)
     | none => none
   | none => none
 | .mkif t x => match x.ev fr with
   | some v => some (.iface t v, σ)
   | none => none
 | .mkmeth tbl x => match x.ev fr with
   | some (.iface t v) => match tbl.lookup t with
     | some g => some (.bm g v, σ)
     | none => none
   | _ => none
 | .bytes x => match x.ev fr with
   | some (.dat (.lit (.string s))) => if (s.size : Int) <= 2 ^ 40 then some (.dat (.sl (bytesD s) s.size false), σ) else none
   | _ => none
 | .mkslice own z b x y => match x.ev fr, y.ev fr with
   | some (.dat (.lit (.int _ l))), some (.dat (.lit (.int _ c))) =>
     if 0 <= l /\ l <= c /\ c <= 2 ^ 40 /\ b * c <= 2 ^ 48 then
       (if own then some (.own σ.length l.toNat z.length, σ ++ [.vec ((repl l.toNat z).map .dat)])
       else some (.msl σ.length 0 l.toNat c.toNat z.length, σ ++ [.cells ((repl c.toNat z).map .dat)])) else none
   | _, _ => none
 | .eqb neg x y => match x.ev fr, y.ev fr with
   | some (.dat (.lit (.bool a))), some (.dat (.lit (.bool b))) => some (.bool (if neg then !(a == b) else a == b), σ)
   | _, _ => none
 | .eqa neg kds x y => match x.ev fr, y.ev fr with
   | some (.dat (.agg as)), some (.dat (.agg bs)) => match eqLits kds as bs with
     | some b => some (.bool (if neg then !b else b), σ)
     | none => none
   | _, _ => none
 | .un op x => match x.ev fr with
   | some (.dat (.lit a)) => match unV op a with
     | some v => some (.dat (.lit v), σ)
     | none => none
   | _ => none
 | .conv k x => match x.ev fr with
   | some (.dat (.lit a)) => match convV k a with
     | some v => some (.dat (.lit v), σ)
     | none => none
   | _ => none
 | .fieldAddr off x => match x.ev fr with
   | some p => match addrAdd off p with
     | some v => some (v, σ)
     | none => none
   | none => none
 | .field agg off n x => match x.ev fr with
   | some v => match v.aggCells with
     | some cs => match cutCells cs off n with
       | some vs => match ofCells agg vs with
         | some u => some (u, σ)
         | none => none
       | none => none
     | none => none
   | none => none
 | .indexAddr sz x i => match x.ev fr, i.ev fr with
   | some s, some (.dat (.lit (.int _ n))) => match sliceAddr sz s n with
     | some v => some (v, σ)
     | none => none
   | _, _ => none
 | .indexAddrA len sz x i => match x.ev fr, i.ev fr with
   | some s, some (.dat (.lit (.int _ n))) => if 0 <= n /\ n < len then (match addrAdd (n.toNat * sz) s with
     | some v => some (v, σ)
     | none => none) else none
   | _, _ => none
 | .indexA agg len sz x i => match x.ev fr, i.ev fr with
   | some v, some (.dat (.lit (.int _ n))) => if 0 <= n /\ n < len then (match v.aggCells with
     | some cs => match cutCells cs (n.toNat * sz) sz with
       | some vs => match ofCells agg vs with
         | some u => some (u, σ)
         | none => none
       | none => none
     | none => none) else none
   | _, _ => none
 | .indexS x i => match x.ev fr, i.ev fr with
   | some (.dat (.lit (.string s))), some (.dat (.lit (.int _ n))) => if 0 <= n then (match s[n.toNat]? with
     | some b => some (.dat (.lit (.int .u8 b.toNat)), σ)
     | none => none) else none
   | _, _ => none
 | .slice sz x lo hi => match x.ev fr, optEv fr lo, optEv fr hi with
   | some v, some l, some h => match sliceV sz l h v with
     | some u => some (u, σ)
     | none => none
   | _, _, _ => none
 | .sliceS x lo hi => match x.ev fr, optEv fr lo, optEv fr hi with
   | some v, some l, some h => match sliceSV l h v with
     | some u => some (u, σ)
     | none => none
   | _, _, _ => none
 | .len k x => match x.ev fr with
   | some v => match v.len σ k with
     | some n => some (.dat (.lit (.int .i64 n)), σ)
     | none => none
   | none => none
 | .min xs => match evs fr xs with
   | some vs => match lits vs with
     | some (y :: ys) => match minI y ys with
       | some v => some (.dat (.lit v), σ)
       | none => none
     | _ => none
   | none => none
 | .max xs => match evs fr xs with
   | some vs => match lits vs with
     | some (y :: ys) => match maxI y ys with
       | some v => some (.dat (.lit v), σ)
       | none => none
     | _ => none
   | none => none
 | .append sz bytes s x => match s.ev fr, x.ev fr with
   | some a, some b => appendV σ sz bytes a b
   | _, _ => none
 | .appendO sz bytes s x => match s.ev fr, x.ev fr with
   | some a, some b => appendO σ sz bytes a b
   | _, _ => none
 | .cut sz x lo hi => match x.ev fr, optEv fr lo, optEv fr hi with
   | some v, some l, some h => cutV σ sz l h v
   | _, _, _ => none
 | .mkmap => some (.mp σ.length, σ ++ [.map []])
 | .mapset kd m k v => match m.ev fr, k.ev fr, v.ev fr with
   | some (.mp l), some (.dat (.lit key)), some x => match σ[l]? with
     | some (.map es) => if keyOk kd key then (match setE kd key x es with
       | some es' => some (.dat (.lit undef), σ.set l (.map es'))
       | none => none) else none
     | _ => none
   | _, _, _ => none
 | .lookup kd zero m k ok => match m.ev fr, k.ev fr with
   | some (.mp l), some (.dat (.lit key)) => match σ[l]? with
     | some (.map es) => if keyOk kd key then (match findE kd key es with
       | some (some v) => some (if ok then .tup [v, .bool true] else v, σ)
       | some none => some (if ok then .tup [.dat zero, .bool false] else .dat zero, σ)
       | none => none) else none
     | _ => none
   | _, _ => none
 | .mkfn f a b => match evs fr a, evs fr b with
   | some as, some bs => some (.fn f as bs, σ)
   | _, _ => none
 | .extract x i => match x.ev fr with
   | some (.tup vs) => match vs[i]? with
     | some v => some (v, σ)
     | none => none
   | _ => none
 | .call f xs => match evs fr xs with
   | some vs => doCall C (.call f) (argS f vs σ).1 (argS f vs σ).2
   | none => none
 | .invoke tbl x xs => match x.ev fr, evs fr xs with
   | some (.iface t v), some vs => match tbl.lookup t with
     | some g => doCall C (.call g) (argS g (v :: vs) σ).1 (argS g (v :: vs) σ).2
     | none => none
   | _, _ => none
 | .callv f xs => match f.ev fr, evs fr xs with
   | some (.fn id a b), some vs => doCall C (.call id) (a ++ (argS id vs σ).1 ++ b) (argS id vs σ).2
   | some (.bm g v), some vs => doCall C (.call g) (argS g (v :: vs) σ).1 (argS g (v :: vs) σ).2
   | some (.yld l), some vs => doCall C .round (.yld l :: vs) σ
   | _, _ => none
 | .defer f xs => match f.ev fr, evs fr xs with
   | some (.fn id a b), some vs => some (.tup (.fn id (a ++ vs ++ b) [] :: fr.defs), σ)
   | _, _ => none
 | .panic _ => none
 | .recov => match fr.get rkey with
   | some v => some (v, σ)
   | none => none
 | .boxT t x => match x.ev fr with
   | some v => if v.cells.all V.one then some (.ptr σ.length 0, σ ++ [.cellsT t v.cells]) else none
   | none => none
 | .appendT t sz bytes s x => match s.ev fr, x.ev fr with
   | some a, some b => appendT σ t sz bytes a b
   | _, _ => none
 | .up x => match x.ev fr with
   | some (.ptr l o) => match σ[l]? with
     | some (.cellsT _ cs) => if o < cs.length then some (.ptr l o, σ) else none
     | _ => none
   | _ => none
 | .down ts x => match x.ev fr with
   | some (.ptr l 0) => match σ[l]? with
     | some (.cellsT t cs) => if ts.contains (t, cs.length) = true then some (.ptr l 0, σ) else none
     | _ => none
   | _ => none
 | .peq neg x y => match x.ev fr, y.ev fr with
   | some (.ptr l o), some (.ptr l' o') => if l = l' /\ o = o' then some (.bool (!neg), σ) else none
   | _, _ => none
 | .usd x => match x.ev fr with
   | some (.dat (.lit (.slice none 0 0))) => some (.dat (.lit (.pointer none)), σ)
   | some (.own l n sz) => if 0 < n /\ sz = 1 then some (.eptr l n 0, σ) else none
   | _ => none
 | .ustr ts x n => match x.ev fr, n.ev fr with
   | some (.dat (.lit (.pointer none))), some (.dat (.lit (.int .i64 k))) => if k = 0 then some (.str ⟨#[]⟩, σ) else none
   | some (.eptr l m o), some (.dat (.lit (.int .i64 k))) => match σ[l]? with
     | some (.vecT t cs) => if ts.contains t = true /\ cs.length = m /\ k = m /\ 0 < m /\ o = 0 /\ m <= 2 ^ 40 then (match toBytes cs with
       | some bs => some (.str ⟨bs.toArray⟩, σ.set l .dead)
       | none => none) else none
     | _ => none
   | _, _ => none
 | .bstr x => match x.ev fr with
   | some v => match bstrV σ v with
     | some u => some (u, σ)
     | none => none
   | none => none
 | .sliceA len sz x lo hi => match x.ev fr, optEv fr lo, optEv fr hi with
   | some v, some l, some h => match sliceAV len sz l h v with
     | some u => some (u, σ)
     | none => none
   | _, _, _ => none
 | .idxb s c => match s.ev fr, c.ev fr with
   | some (.dat (.lit (.string s))), some (.dat (.lit (.int .u8 n))) => some (.int (firstIdx s n.toNat.toUInt8), σ)
   | _, _ => none
 | .fill k => match fr.get k with
   | some (.ptr l 0) => match σ[l]? with
     | some (.cells _) => some (.ptr l 0, σ)
     | _ => none
   | _ => none
def runOP (C : Task -> Option Res) (fr : Fr) (σ : S) : O -> Option (V × S)
 | .call f xs => match evs fr xs with
   | some vs => doCallP C (.call f) (argS f vs σ).1 (argS f vs σ).2
   | none => none
 | .invoke tbl x xs => match x.ev fr, evs fr xs with
   | some (.iface t v), some vs => match tbl.lookup t with
     | some g => doCallP C (.call g) (argS g (v :: vs) σ).1 (argS g (v :: vs) σ).2
     | none => none
   | _, _ => none
 | .callv f xs => match f.ev fr, evs fr xs with
   | some (.fn id a b), some vs => doCallP C (.call id) (a ++ (argS id vs σ).1 ++ b) (argS id vs σ).2
   | some (.bm g v), some vs => doCallP C (.call g) (argS g (v :: vs) σ).1 (argS g (v :: vs) σ).2
   | _, _ => none
 | .panic x => match x.ev fr with
   | some (.iface t v) => some (.iface t v, σ)
   | _ => none
 | _ => none

def O.calls : O -> Bool
 | .call .. | .invoke .. | .callv .. | .panic .. => true
 | _ => false
theorem runOP_calls {C : Task -> Option Res} {fr : Fr} {σ : S} {op : O} (h : op.calls = false) : runOP C fr σ op = none := by
 cases op <;> first | rfl | cases h
def X.tmps : X -> List Nat
 | .t n => [n]
 | _ => []
def tmpsX : List X -> List Nat
 | [] => []
 | x :: r => x.tmps ++ tmpsX r
def tmpsP : List (Nat × Nat × X) -> List Nat
 | [] => []
 | (_, _, x) :: r => x.tmps ++ tmpsP r
def tmpsOX : Option X -> List Nat
 | none => []
 | some x => x.tmps
def O.tmps : O -> List Nat
 | .mov x | .box x | .boxT _ x | .load _ _ x | .nilchk x | .un _ x | .conv _ x | .fieldAddr _ x | .field _ _ _ x | .len _ x | .extract x _ | .isnil _ _ x | .mkif _ x | .mkmeth _ x | .bytes x | .up x | .down _ x | .usd x | .bstr x => x.tmps
 | .pick c a b => c.tmps ++ (a.tmps ++ b.tmps)
 | .alloc _ | .mkmap => []
 | .build _ ps | .bslice _ _ ps | .bsliceO _ _ _ ps => tmpsP ps
 | .store _ a x | .bin _ a x | .eqb _ a x | .eqa _ _ a x | .mkslice _ _ _ a x | .indexAddr _ a x | .indexAddrA _ _ a x | .indexA _ _ _ a x | .indexS a x | .append _ _ a x | .appendO _ _ a x | .appendT _ _ _ a x | .peq _ a x | .ustr _ a x | .idxb a x | .lookup _ _ a x _ => a.tmps ++ x.tmps
 | .slice _ x l h | .sliceS x l h | .cut _ x l h | .sliceA _ _ x l h => x.tmps ++ (tmpsOX l ++ tmpsOX h)
 | .min xs | .max xs | .call _ xs => tmpsX xs
 | .mapset _ a b c => a.tmps ++ (b.tmps ++ c.tmps)
 | .mkfn _ a b => tmpsX a ++ tmpsX b
 | .callv f xs => f.tmps ++ tmpsX xs
 | .invoke _ f xs => f.tmps ++ tmpsX xs
 | .defer f xs => dkey :: (f.tmps ++ tmpsX xs)
 | .panic x => x.tmps
 | .recov => [rkey]
 | .fill k => [k]
def I.looks (i : I) : List Nat := i.op.tmps ++ (match i.guard with | some (t, _) => [t] | none => [])

def wantedI (fr : Fr) : Option (Nat × Bool) -> Option Bool
 | none => some true
 | some (t, want) => match fr.get t with
   | some (.dat (.lit (.bool b))) => some (b == want)
   | some (.dat (.lit _)) => some false
   | _ => none
def runOs (C : Task -> Option Res) : List I -> Fr -> S -> Option (Fr × S)
 | [], fr, σ => some (fr, σ)
 | i :: r, fr, σ => match wantedI fr i.guard with
   | some true => match runO C fr σ i.op with
     | some (v, σ') => runOs C r (fr.put i.dst v) σ'
     | none => none
   | some false => runOs C r (fr.put i.dst (.dat (.lit undef))) σ
   | none => none

def runOsP (C : Task -> Option Res) : List I -> Fr -> S -> Option (V × Fr × S)
 | [], _, _ => none
 | i :: r, fr, σ => match wantedI fr i.guard with
   | some true => match runO C fr σ i.op with
     | some (v, σ') => runOsP C r (fr.put i.dst v) σ'
     | none => match runOP C fr σ i.op with
       | some (v, σ') => some (v, fr, σ')
       | none => none
   | some false => runOsP C r (fr.put i.dst (.dat (.lit undef))) σ
   | none => none

inductive Ev where
 | pure
 | read (l : Nat)
 | chain (n : Nat) (T : List Nat)
 deriving Inhabited
def locOf : Option V -> List Nat
 | some v => v.locs
 | none => []
def evRead : Option V -> Ev
 | some (.ptr l _) => .read l
 | some (.eptr l _ _) => .read l
 | some (.mp l) => .read l
 | _ => .pure
def locsO : Option (List V) -> List Nat
 | some vs => locsL vs
 | none => []
def argO (f : Nat) (vs : Option (List V)) (σ : S) : List V × S := match vs with
 | some vs => argS f vs σ
 | none => ([], σ)
def evOf (fr : Fr) (σ : S) : O -> Ev
 | .load _ _ a => evRead (a.ev fr)
 | .lookup _ _ m _ _ => evRead (m.ev fr)
 | .len _ x => evRead (x.ev fr)
 | .fill k => evRead (fr.get k)
 | .alloc _ | .boxT _ _ | .box _ | .mkmap | .mkslice .. | .bsliceO .. | .up _ | .down _ _ | .bstr _ => .chain σ.length []
 | .store _ a _ => .chain σ.length (locOf (a.ev fr))
 | .mapset _ m _ _ => .chain σ.length (locOf (m.ev fr))
 | .append _ _ s _ | .appendO _ _ s _ | .appendT _ _ _ s _ | .ustr _ s _ | .cut _ s _ _ => .chain σ.length (locOf (s.ev fr))
 | .call f xs => .chain σ.length (locsO (evs fr xs) ++ reach (argO f (evs fr xs) σ).2 100000 (locsL (argO f (evs fr xs) σ).1) [])
 | .invoke tbl x xs => match x.ev fr with
   | some (.iface t v) => match tbl.lookup t with
     | some g => .chain σ.length (v.locs ++ locsO (evs fr xs) ++ reach (argO g ((evs fr xs).map (v :: ·)) σ).2 100000 (locsL (argO g ((evs fr xs).map (v :: ·)) σ).1) [])
     | none => .pure
   | _ => .pure
 | .callv f xs => match f.ev fr with
   | some (.fn f a b) => .chain σ.length (locsO (evs fr xs) ++ reach (argO f (evs fr xs) σ).2 100000 (locsL a ++ (locsL (argO f (evs fr xs) σ).1 ++ locsL b)) [])
   | some (.bm g v) => .chain σ.length (v.locs ++ locsO (evs fr xs) ++ reach (argO g ((evs fr xs).map (v :: ·)) σ).2 100000 (locsL (argO g ((evs fr xs).map (v :: ·)) σ).1) [])
   | some (.yld l) => .chain σ.length (reach σ 100000 (l :: locsO (evs fr xs)) [])
   | _ => .pure
 | _ => .pure
def O.chain : O -> Bool
 | .alloc _ | .boxT _ _ | .box _ | .store .. | .append .. | .appendO .. | .appendT .. | .up _ | .down _ _ | .ustr .. | .bstr _ | .cut .. | .mkmap | .mkslice .. | .bsliceO .. | .mapset .. | .call .. | .callv .. | .invoke .. => true
 | _ => false
def O.reads : O -> Bool
 | .load .. | .lookup .. | .len .. | .fill .. => true
 | _ => false
def O.isFill : O -> Bool
 | .fill _ => true
 | _ => false
def runLog (C : Task -> Option Res) : List I -> Fr -> S -> Option (List Ev × Fr × S)
 | [], fr, σ => some ([], fr, σ)
 | i :: r, fr, σ => match wantedI fr i.guard with
   | some true => match runO C fr σ i.op with
     | some (v, σ') => match runLog C r (fr.put i.dst v) σ' with
       | some (l, fr', σ'') => some (evOf fr σ i.op :: l, fr', σ'')
       | none => none
     | none => none
   | some false => match runLog C r (fr.put i.dst (.dat (.lit undef))) σ with
     | some (l, fr', σ'') => some (.pure :: l, fr', σ'')
     | none => none
   | none => none
def runLogP (C : Task -> Option Res) : Nat -> List I -> Fr -> S -> Option (Nat × List Ev × V × S)
 | _, [], _, _ => none
 | k, i :: r, fr, σ => match wantedI fr i.guard with
   | some true => match runO C fr σ i.op with
     | some (v, σ') => match runLogP C (k + 1) r (fr.put i.dst v) σ' with
       | some (p, l, u, σ'') => some (p, evOf fr σ i.op :: l, u, σ'')
       | none => none
     | none => match runOP C fr σ i.op with
       | some (v, σ') => some (k, [], v, σ')
       | none => none
   | some false => match runLogP C (k + 1) r (fr.put i.dst (.dat (.lit undef))) σ with
     | some (p, l, u, σ'') => some (p, .pure :: l, u, σ'')
     | none => none
   | none => none
def reserveS : List (Nat × List D) -> S
 | [] => []
 | (_, z) :: r => .cells (z.map .dat) :: reserveS r
def reserveF : Nat -> List (Nat × List D) -> Fr -> Fr
 | _, [], fr => fr
 | l, (k, _) :: r, fr => reserveF (l + 1) r ((k, .ptr l 0) :: fr)
def alone (es : List Ev) (l j : Nat) : List Nat -> Bool
 | [] => true
 | i :: r => (match es[i]? with
   | some (.chain n T) => !T.contains l && (decide (j <= i) || decide (l < n))
   | _ => true) && alone es l j r
def calm (es : List Ev) : List I -> Nat -> List Ev -> Bool
 | i :: is, j, e :: r => (match e with | .read l => alone es l j i.un | _ => true) && calm es is (j + 1) r
 | _, _, _ => true

def runTr (C : Task -> Option Res) : List I -> Fr -> S -> Option (List (Fr × S))
 | [], fr, σ => some [(fr, σ)]
 | i :: r, fr, σ => match wantedI fr i.guard with
   | some true => match runO C fr σ i.op with
     | some (v, σ') => match runTr C r (fr.put i.dst v) σ' with
       | some l => some ((fr, σ) :: l)
       | none => none
     | none => none
   | some false => match runTr C r (fr.put i.dst (.dat (.lit undef))) σ with
     | some l => some ((fr, σ) :: l)
     | none => none
   | none => none
def V.same : V -> V -> Bool
 | .own l n sz, .own l' n' sz' => l == l' && (n == n' && sz == sz')
 | .dat (.lit (.int k a)), .dat (.lit (.int k' b)) => decide (k = k') && eqI a b
 | .dat (.lit (.slice none 0 0)), .dat (.lit (.slice none 0 0)) => true
 | _, _ => false
def still (ss : List (Fr × S)) (agg : Bool) (n : Nat) (p : V) : List Nat -> Bool
 | [] => true
 | i :: r => (match ss[i]?, ss[i + 1]? with
   | some a, some b => match loadV a.2 agg n p, loadV b.2 agg n p with
     | some u, some v => u.same v
     | _, _ => false
   | _, _ => true) && still ss agg n p r
def stillI (ss : List (Fr × S)) (i : I) (j : Nat) : Bool := match i.op, ss[j]? with
 | .load agg n x, some s => match x.ev s.1 with
   | some p => still ss agg n p i.un
   | none => false
 | _, _ => false
def calm2 (es : List Ev) (ss : List (Fr × S)) : List I -> Nat -> List Ev -> Bool
 | i :: is, j, e :: r => (match e with | .read l => alone es l j i.un || stillI ss i j | _ => true) && calm2 es ss is (j + 1) r
 | _, _, _ => true

def Ex.isPan : Ex -> Bool
 | .pan _ => true
 | _ => false
def run (C : Task -> Option Res) (k : Nat) : PC -> Fr -> S -> Option (Ex × Fr × S)
 | .skip, fr, σ => some (.normal, fr, σ)
 | .region none ops keep _, fr, σ => match runOs C ops fr σ with
   | some (fr', σ') => some (.normal, fr'.keep keep, σ')
   | none => match runOsP C ops fr σ with
     | some (v, fr', σ') => some (.pan v, fr', σ')
     | none => none
 | .region (some rs) ops keep lasts, fr, σ => match runLog C ops (reserveF σ.length rs fr) (σ ++ reserveS rs) with
   | some (es, fr', σ') => if calm es ops 0 es then some (.normal, fr'.keep keep, σ') else (match runTr C ops (reserveF σ.length rs fr) (σ ++ reserveS rs) with
     | some ss => if calm2 es ss ops 0 es then some (.normal, fr'.keep keep, σ') else none
     | none => none)
   | none => match runLogP C 0 ops (reserveF σ.length rs fr) (σ ++ reserveS rs) with
     | some (p, es, v, σ') => if lasts.contains p && calm es (ops.take p) 0 es then some (.pan v, fr.keep [dkey], σ') else none
     | none => none
 | .seq a b, fr, σ => match run C k a fr σ with
   | some (.normal, fr', σ') => run C k b fr' σ'
   | r => r
 | .cond c a b, fr, σ => match c.ev fr with
   | some (.dat (.lit (.bool true))) => run C k a fr σ
   | some (.dat (.lit (.bool false))) => run C k b fr σ
   | _ => none
 | .block id b, fr, σ => match run C k b fr σ with
   | some (.exit id', fr', σ') => if id' = id then some (.normal, fr', σ') else some (.exit id', fr', σ')
   | r => r
 | .loop b, fr, σ => match C (.loop k b fr σ) with
   | some (.out e fr' σ') => some (e, fr', σ')
   | _ => none
 | .exit id, fr, σ => some (.exit id, fr, σ)
 | .ret, fr, σ => some (.ret, fr, σ)
 | .range f ps assign body, fr, σ => match f.ev fr with
   | some (.fn id a b) => match (if (locsF fr).all (fun l => decide (l < σ.length)) then doCall C (.call id) (a ++ (.yld σ.length :: b)) (σ ++ [.loop ⟨fr.noD, ps, assign, body, 0, none⟩]) else none) with
     | some (_, σ') => match σ'[σ.length]? with
       | some (.loop lp) => if lp.st = 1 \/ lp.pend.any Ex.isPan = true then none else some (lp.pend.getD .normal, fr, σ'.set σ.length (.loop { lp with st := 3 }))
       | _ => none
     | none => none
   | _ => none

def enterFr : Nat -> List V -> Fr
 | _, [] => []
 | i, v :: r => (i, v) :: enterFr (i + 1) r
def resV (fr : Fr) (σ : S) : List PR -> Option (List V)
 | [] => some []
 | .tmp t :: r => match fr.get t, resV fr σ r with
   | some v, some vs => some (v :: vs)
   | _, _ => none
 | .cell t agg n :: r => match fr.get t with
   | some p => match loadV σ agg n p, resV fr σ r with
     | some v, some vs => some (v :: vs)
     | _, _ => none
   | none => none
def one : List V -> V
 | [v] => v
 | vs => .tup vs
def gcL (k : Nat) (ls : List Nat) (σ : S) : List Nat := List.range k ++ (reach σ 100000 (List.range k ++ ls) []).filter (fun l => decide (k <= l))
def gcF (k : Nat) (fr : Fr) (σ : S) : Option (Fr × S) :=
 let L := gcL k (locsF fr) σ
 match restrict L [] σ with
 | some (_, σ') => if inL L (locsF fr) then some (renF (idx L) fr, σ') else none
 | none => none
def putAll (fr : Fr) : List Nat -> List V -> Fr
 | p :: ps, v :: vs => putAll ((p, v) :: fr) ps vs
 | _, _ => fr
def PC.flat : PC -> Bool
 | .seq a b | .cond _ a b => a.flat && b.flat
 | .block _ b | .loop b => b.flat
 | .range .. => false
 | .region _ ops _ _ => ops.all fun i => match i.op with | .defer _ _ => false | _ => true
 | _ => true
def Lp.ended (lp : Lp) : Ex -> Lp
 | .normal => { lp with st := 0, pend := none }
 | e => { lp with st := 2, pend := some e }
def Ex.isNormal : Ex -> Bool
 | .normal => true
 | _ => false
def runRound (C : Task -> Option Res) : List V -> S -> Option Res
 | .yld l :: vs, σ => match σ[l]? with
   | some (.loop lp) =>
     if vs.length = lp.ps.length /\ (lp.st = 0 /\ (lp.assign.flat && lp.body.flat) = true /\ ((putAll lp.fr lp.ps vs).get dkey).isNone = true) then
       match run C σ.length lp.assign (putAll lp.fr lp.ps vs) σ with
       | some (.normal, fr1, σ1) => match σ1[l]? with
         | some (.loop lp1) => if lp1.st = 0 /\ (fr1.get dkey).isNone = true then (match run C σ.length lp.body fr1 (σ1.set l (.loop { lp1 with st := 1 })) with
           | some (.pan _, _, _) => none
           | some (e, _, σ2) => match σ2[l]? with
             | some (.loop lp2) => match restrict (gcL σ.length [] (σ2.set l (.loop (lp2.ended e)))) [] (σ2.set l (.loop (lp2.ended e))) with
               | some (_, σ3) => some (.ret (.bool e.isNormal) σ3)
               | none => none
             | _ => none
           | none => none) else none
         | _ => none
       | _ => none
     else none
   | _ => none
 | _, _ => none
def finishV (k : Nat) (vs : List V) (σ : S) : Option Res :=
 match restrict (gcL k (locsL vs) σ) vs σ with
 | some (vs', σ') => some (.ret (one vs') σ')
 | none => none
def finish (pf : PFun) (k : Nat) (fr : Fr) (σ : S) : Option Res :=
 match resV fr σ pf.results with
 | some vs0 =>
   if pf.noseal then finishV k vs0 σ
   else if (outTL k σ vs0).2.all (fun l => !(gcL k (locsL (outTL k σ vs0).1) σ).contains l) then finishV k (outTL k σ vs0).1 σ
   else finishV k (sealTL vs0) σ
 | none => none
def V.isNilIf : V -> Bool
 | .dat (.lit .nilIface) => true
 | _ => false
def runDefers (C : Task -> Option Res) : List V -> S -> Option S
 | [], σ => some σ
 | .fn id a [] :: r, σ => match doCall C (.dcall id) (.dat (.lit .nilIface) :: a) σ with
   | some (_, σ') => runDefers C r σ'
   | none => none
 | _, _ => none
def leave (C : Task -> Option Res) (pf : PFun) (k : Nat) (fr : Fr) (σ : S) : Option Res :=
 match runDefers C fr.defs σ with
 | some σ' => finish pf k fr σ'
 | none => none
def leaveP (C : Task -> Option Res) (pf : PFun) (k : Nat) (v : V) (fr : Fr) (σ : S) : Option Res :=
 match fr.defs with
 | [] => match restrict (gcL k v.locs σ) [v] σ with
   | some ([v'], σ') => some (.ret (.pan v') σ')
   | _ => none
 | .fn id a [] :: r => if v.isNilIf then none else (match doCall C (.dcall id) (v :: a) σ with
   | some (_, σ') => match runDefers C r σ' with
     | some σ'' => finish pf k fr σ''
     | none => none
   | none => none)
 | _ => none
def callBody (C : Task -> Option Res) (pf : PFun) (args : List V) (σ : S) : Option Res :=
 if args.length = pf.np then
   match run C σ.length pf.body (enterFr 0 args) σ with
   | some (.normal, fr, σ') => if pf.df then leave C pf σ.length fr σ' else finish pf σ.length fr σ'
   | some (.ret, fr, σ') => if pf.df then leave C pf σ.length fr σ' else finish pf σ.length fr σ'
   | some (.pan v, fr, σ') => leaveP C pf σ.length v fr σ'
   | _ => none
 else none
def dcallBody (C : Task -> Option Res) (pf : PFun) (args : List V) (σ : S) : Option Res :=
 match args with
 | pv :: args =>
   if args.length = pf.np /\ pf.df = false /\ pf.results.isEmpty = true /\ pf.body.flat = true /\ (pf.catches = true \/ pv.isNilIf = true) then
     match run C σ.length pf.body ((rkey, pv) :: enterFr 0 args) σ with
     | some (.normal, _, σ') => match restrict (gcL σ.length [] σ') [] σ' with
       | some (_, σ'') => some (.ret (.dat (.lit undef)) σ'')
       | none => none
     | some (.ret, _, σ') => match restrict (gcL σ.length [] σ') [] σ' with
       | some (_, σ'') => some (.ret (.dat (.lit undef)) σ'')
       | none => none
     | _ => none
   else none
 | [] => none
def exec (prog : Nat -> Option PFun) : Nat -> Task -> Option Res
 | 0, _ => none
 | n + 1, .call f args σ => match prog f with
   | some pf => if pf.catches then none else callBody (exec prog n) pf args σ
   | none => none
 | n + 1, .dcall f args σ => match prog f with
   | some pf => dcallBody (exec prog n) pf args σ
   | none => none
 | n + 1, .loop k b fr σ => match gcF k fr σ with
   | some (fr0, σ0) => match run (exec prog n) k b fr0 σ0 with
     | some (.normal, fr', σ') => exec prog n (.loop k b fr' σ')
     | some (e, fr', σ') => some (.out e fr' σ')
     | none => none
   | none => none
 | n + 1, .round args σ => runRound (exec prog n) args σ
end Go.Pm
end SA
section SB
namespace Go.Pm

def isZ : Operand -> Bool
 | .const (.int _ 0) => true
 | _ => false
structure Ids where
 fn : FuncId -> Option Nat
 ty : TypeId -> Option Nat
 gl : Nat -> Option (List D)
 own : Bool := false
 df : Bool := false
instance : CoeFun Ids (fun _ => FuncId -> Option Nat) := ⟨Ids.fn⟩
section
variable (P : Program) (ids : Ids) (N : Nat)

def isAggT (t : TypeId) : Option Bool :=
 match P.underlying t with
 | some (.struct _) => some true
 | some (.array _ _) => some true
 | some _ => some false
 | none => none
def sizeT (t : TypeId) : Option Nat := (P.info? t).map (·.size)
def bytesT (t : TypeId) : Option Nat := (P.info? t).map (·.bytes)
def noAgg : Value -> Bool
 | .agg _ => false
 | _ => true
def litCells (v : Value) : List D := v.cells.toList.map .lit
def cellsOk (v : Value) : Bool := v.cells.toList.all fun x => noAgg x && x.oneCell'
def toD : Value -> D
 | .agg cs => .agg (cs.toList.map .lit)
 | v => .lit v
def zeroT (t : TypeId) : Option Value := match (P.info? t).bind (·.zero) with
 | some z => if cellsOk z then some z else none
 | none => none
def kdT (t : TypeId) : Option KD :=
 match P.underlying t with
 | some .bool => some .b
 | some (.int _) => some .i
 | some .string => some .s
 | _ => none

def flatFields (rec : TypeId -> Option (List KD)) : Nat -> List Field -> Option (List KD)
 | _, [] => some []
 | off, f :: r => if f.offset = off /\ f.name ≠ "_" then (match rec f.type with
   | some ks => match flatFields rec (off + ks.length) r with
     | some rs => some (ks ++ rs)
     | none => none
   | none => none) else none
def flatOk (t : TypeId) : Option (List KD) -> Option (List KD)
 | some ks => if sizeT P t = some ks.length then some ks else none
 | none => none
def flatT : Nat -> TypeId -> Option (List KD)
 | 0, _ => none
 | d + 1, t => flatOk P t (match P.underlying t with
   | some .bool => some [.b]
   | some (.int _) => some [.i]
   | some .string => some [.s]
   | some (.struct fs) => if P.stoodInHeld t then none else flatFields (flatT d) 0 fs.toList
   | some (.array len e) => (flatT d e).map (repl len)
   | _ => none)
def cX : Operand -> Option X
 | .tmp t => if t < N then some (.t t) else none
 | .const v => if noAgg v then some (.c v) else none
 | .global g => (ids.gl g).map .g
 | .func f => (ids f).map .f
def cXs : List Operand -> Option (List X)
 | [] => some []
 | x :: r => match cX ids N x, cXs r with
   | some y, some ys => some (y :: ys)
   | _, _ => none
def cOX : Option Operand -> Option (Option X)
 | none => some none
 | some x => (cX ids N x).map some
def placesT : List Field -> Option (List (Nat × Nat))
 | [] => some []
 | f :: r => match sizeT P f.type, placesT r with
   | some n, some ps => some ((f.offset, n) :: ps)
   | _, _ => none
def cParts (place : Nat -> Option (Nat × Nat)) : List (Nat × Operand) -> Option (List (Nat × Nat × X))
 | [] => some []
 | (i, x) :: r => match place i, cX ids N x, cParts place r with
   | some (o, n), some y, some ys => some ((o, n, y) :: ys)
   | _, _, _ => none

def methT (t : TypeId) (name : String) : Option FuncId :=
 match P.info? t, P.underlying t with
 | some i, some (.pointer _) => match i.methods.find? (·.name == name) with
   | some m => if m.path.isEmpty then (match m.func with | some (f, true) => some f | _ => none) else none
   | none => none
 | _, _ => none
def tblOf (name : String) : List Nat -> List (Nat × Nat)
 | [] => []
 | t :: r => match methT P t name with
   | some f => match ids f with
     | some g => match ids.ty t with
       | some u => (u, g) :: tblOf name r
       | none => tblOf name r
     | none => tblOf name r
   | none => tblOf name r
def externT (f : FuncId) : Option Bool := match P.funcs[f]? with
 | some fn => if fn.body.isNone /\ fn.origin = "" then (if fn.name = "internal/abi.NoEscape" then some false else if fn.name = "internal/bytealg.IndexByteString" then some true else none) else none
 | none => none
def downT (u : TypeId) : List TypeId -> List (Nat × Nat)
 | [] => []
 | t :: r => match ids.ty t with
   | some n => if liesAt P P.depth t (P.cellsOf t / P.cellsOf t) 0 u 1 = true then (n, P.cellsOf t) :: downT u r else downT u r
   | none => downT u r
def cCall (c : Call) : Option O :=
 match c.callee with
 | .value (.func f) => match ids f, cXs ids N c.args.toList with
   | some g, some xs => some (.call g xs)
   | none, some xs => match externT P f, xs with
     | some false, [x] => some (.mov x)
     | some true, [x, y] => some (.idxb x y)
     | _, _ => none
   | _, _ => none
 | .value x => match cX ids N x, cXs ids N c.args.toList with
   | some g, some xs => some (.callv g xs)
   | _, _ => none
 | .invoke recv name => match cX ids N recv, cXs ids N c.args.toList with
   | some x, some xs => some (.invoke (tblOf P ids name (List.range P.types.size)) x xs)
   | _, _ => none
 | .builtin b => match b, c.args.toList, c.argTypes.toList with
   | .len, [x], [t] => match P.underlying t, cX ids N x with
     | some .string, some y => some (.len .str y)
     | some (.slice _), some y => some (.len .sl y)
     | some (.map _ _), some y => some (.len .mp y)
     | _, _ => none
   | .min, xs, _ => (cXs ids N xs).map .min
   | .max, xs, _ => (cXs ids N xs).map .max
   | .append, [s, x], [ts, tx] => match P.underlying ts, P.underlying tx, cX ids N s, cX ids N x with
     | some (.slice e), some (.slice _), some s', some x' => match sizeT P e, bytesT P e, zeroT P e with
       | some n, some b, some z => if z.cells.size = n then some (if ids.own then (match ids.ty e with | some t => .appendT t n b s' x' | none => .appendO n b s' x') else .append n b s' x') else none
       | _, _, _ => none
     | some (.slice e), some .string, some s', some x' => match sizeT P e, bytesT P e, zeroT P e with
       | some n, some b, some z => if z.cells.size = n then some (if ids.own then (match ids.ty e with | some t => .appendT t n b s' x' | none => .appendO n b s' x') else .append n b s' x') else none
       | _, _, _ => none
     | _, _, _, _ => none
   | .unsafeSliceData, [x], _ => (cX ids N x).map .usd
   | .unsafeString, [x, n], [t, _] => match P.underlying t, cX ids N x, cX ids N n with
     | some (.pointer e), some a, some b => match ids.ty e, P.underlying e with
       | some u, some (.int .u8) => if sizeT P e = some 1 /\ P.cellsOf e = 1 /\ 1 <= P.depth then some (.ustr [u] a b) else none
       | _, _ => none
     | _, _, _ => none
   | _, _, _ => none

def cOp : Op -> Option O
 | .move x => (cX ids N x).map .mov
 | .assign x => (cX ids N x).map .mov
 | .pick c a b => match cX ids N c, cX ids N a, cX ids N b with
   | some c', some a', some b' => some (.pick c' a' b')
   | _, _, _ => none
 | .alloc t => (zeroT P t).map fun z => .alloc (litCells z)
 | .box t x => match ids.own, ids.ty t with
   | true, some u => (cX ids N x).map (.boxT u)
   | _, _ => (cX ids N x).map .box
 | .build t parts => match P.underlying t, zeroT P t with
   | some (.struct fields), some z => match placesT P fields.toList with
     | some ps => (cParts ids N (fun i => ps[i]?) parts.toList).map (.build (litCells z))
     | none => none
   | some (.array _ e), some z => match sizeT P e with
     | some n => (cParts ids N (fun i => some (i * n, n)) parts.toList).map (.build (litCells z))
     | none => none
   | _, _ => none
 | .buildSlice t len parts => match P.underlying t with
   | some (.slice e) => match sizeT P e, zeroT P e with
     | some n, some z => if len * n <= 2 ^ 24 /\ z.cells.size = n /\ 0 < n then (cParts ids N (fun i => some (i * n, n)) parts.toList).map (fun ps => if ids.own && len == 1 then .bsliceO len n (repl len (litCells z)) ps else .bslice len (repl len (litCells z)) ps) else none
     | _, _ => none
   | _ => none
 | .load t a => match isAggT P t, sizeT P t, cX ids N a with
   | some true, some n, some x => some (.load true n x)
   | some false, _, some x => some (.load false 1 x)
   | _, _, _ => none
 | .store t a v => match sizeT P t, cX ids N a, cX ids N v with
   | some n, some x, some y => some (.store n x y)
   | _, _, _ => none
 | .nilCheck x => (cX ids N x).map .nilchk
 | .binOp op t x y _ => match op, P.underlying t, y with
   | .eql, some (.interface _), .const .nilIface => (cX ids N x).map (.isnil false false)
   | .neq, some (.interface _), .const .nilIface => (cX ids N x).map (.isnil false true)
   | .eql, some (.pointer _), .const (.pointer none) => (cX ids N x).map (.isnil true false)
   | .neq, some (.pointer _), .const (.pointer none) => (cX ids N x).map (.isnil true true)
   | _, _, _ => match cX ids N x, cX ids N y with
     | some a, some b => match op, P.underlying t with
       | .eql, some .bool => some (.eqb false a b)
       | .neq, some .bool => some (.eqb true a b)
       | .eql, some (.struct _) => (flatT P 20 t).map fun ks => .eqa false ks a b
       | .neq, some (.struct _) => (flatT P 20 t).map fun ks => .eqa true ks a b
       | .eql, some (.array _ _) => (flatT P 20 t).map fun ks => .eqa false ks a b
       | .neq, some (.array _ _) => (flatT P 20 t).map fun ks => .eqa true ks a b
       | .eql, some (.pointer e) => if sizeT P e = none \/ sizeT P e = some 0 then none else some (.peq false a b)
       | .neq, some (.pointer e) => if sizeT P e = none \/ sizeT P e = some 0 then none else some (.peq true a b)
       | _, _ => some (.bin op a b)
     | _, _ => none
 | .unOp op _ x => (cX ids N x).map (.un op)
 | .convert src dst x => match P.underlying src, P.underlying dst, cX ids N x with
   | some _, some (.int k), some y => some (.conv (.int k) y)
   | some (.int _), some .string, some y => some (.conv .intStr y)
   | some .string, some .string, some y => some (.conv .strStr y)
   | some .string, some (.slice e), some y => match P.underlying e, bytesT P e with
     | some (.int .u8), some 1 => some (.bytes y)
     | _, _ => none
   | some (.slice e), some .string, some y => match P.underlying e with
     | some (.int .u8) => some (.bstr y)
     | _ => none
   | some (.pointer e), some .unsafePointer, some y => if sizeT P e = none \/ sizeT P e = some 0 then none else some (.up y)
   | some .unsafePointer, some (.pointer e), some y => if sizeT P e = none \/ sizeT P e = some 0 then none else some (.down (downT P ids e (List.range P.types.size)) y)
   | _, _, _ => none
 | .fieldAddr s x f => match P.underlying s, cX ids N x with
   | some (.struct fields), some y => match fields[f]? with
     | some fd => if sizeT P fd.type = some 0 then none else (sizeT P fd.type).map fun _ => .fieldAddr fd.offset y
     | none => none
   | _, _ => none
 | .field t x f => match P.underlying t, cX ids N x with
   | some (.struct fields), some y => match fields[f]? with
     | some fd => match isAggT P fd.type, sizeT P fd.type with
       | some true, some n => some (.field true fd.offset n y)
       | some false, _ => some (.field false fd.offset 1 y)
       | _, _ => none
     | none => none
   | _, _ => none
 | .indexAddr t x i => match P.underlying t, cX ids N x, cX ids N i with
   | some (.slice e), some y, some j => (sizeT P e).map fun n => .indexAddr n y j
   | some (.array len e), some y, some j => (sizeT P e).map fun n => .indexAddrA len n y j
   | _, _, _ => none
 | .index t x i => match P.underlying t, cX ids N x, cX ids N i with
   | some (.array len e), some y, some j => match isAggT P e, sizeT P e with
     | some true, some n => some (.indexA true len n y j)
     | some false, some n => if n = 1 then some (.indexA false len 1 y j) else none
     | _, _ => none
   | some .string, some y, some j => some (.indexS y j)
   | _, _, _ => none
 | .slice t x lo hi mx => match mx, P.underlying t, cX ids N x, cOX ids N lo, cOX ids N hi with
   | none, some (.slice e), some y, some l, some h => (sizeT P e).map fun n => if ids.own then .cut n y l h else .slice n y l h
   | none, some .string, some y, some l, some h => some (.sliceS y l h)
   | none, some (.array len e), some y, some l, some h => (sizeT P e).map fun n => .sliceA len n y l h
   | _, _, _, _, _ => none
 | .makeInterface t x => match P.underlying t with
   | some (.interface _) => none
   | some _ => match ids.ty t with
     | some u => (cX ids N x).map (.mkif u)
     | none => none
   | none => none
 | .makeSlice t x y => match P.underlying t, cX ids N x, cX ids N y with
   | some (.slice e), some x', some y' => match sizeT P e, zeroT P e, bytesT P e with
     | some n, some z, some b => if z.cells.size = n /\ 0 < n then some (.mkslice (ids.own && isZ x) (litCells z) b x' y') else none
     | _, _, _ => none
   | _, _, _ => none
 | .makeMap t r => match r, P.underlying t with
   | none, some _ => some .mkmap
   | _, _ => none
 | .mapUpdate t m k x => match P.underlying t, cX ids N m, cX ids N k, cX ids N x with
   | some (.map kt _), some a, some b, some c => (kdT P kt).map fun kd => .mapset kd a b c
   | _, _, _, _ => none
 | .insert t m k x => match P.underlying t, cX ids N m, cX ids N k, cX ids N x with
   | some (.map kt _), some a, some b, some c => (kdT P kt).map fun kd => .mapset kd a b c
   | _, _, _, _ => none
 | .lookup t m k ok => match P.underlying t, cX ids N m, cX ids N k with
   | some (.map kt e), some a, some b => match kdT P kt, zeroT P e with
     | some kd, some z => some (.lookup kd (toD z) a b ok)
     | _, _ => none
   | _, _, _ => none
 | .makeFunc (.func f) a b => match ids f, cXs ids N a.toList, cXs ids N b.toList with
   | some g, some as, some bs => some (.mkfn g as bs)
   | _, _, _ => none
 | .makeFunc (.method name) a b => match a.toList, b.toList with
   | [x], [] => (cX ids N x).map (.mkmeth (tblOf P ids name (List.range P.types.size)))
   | _, _ => none
 | .extract x i => (cX ids N x).map fun y => .extract y i
 | .call c => cCall P ids N c
 | .panic x => (cX ids N x).map .panic
 | _ => none

def cOpD (draw : Bool) (o : Oper) : Option O :=
 match draw, o.op, o.dst, o.guard with
 | true, .alloc _, some d, none => some (.fill (N + d))
 | true, .alloc _, _, _ => none
 | _, op, _, _ => cOp P ids N op
def reserved : List Oper -> Option (List (Nat × List D))
 | [] => some []
 | o :: r => match o.op, o.dst with
   | .alloc t, some d => match zeroT P t, reserved r with
     | some z, some rs => some ((N + d, litCells z) :: rs)
     | _, _ => none
   | _, _ => reserved r
def dstOk (N : Nat) : Option Nat -> Bool
 | some d => decide (d < N)
 | none => true
def cDefer (o : Oper) : Option I :=
 match o.op, o.dst, o.guard with
 | .defer c, none, none => match c.callee with
   | .value x => match cX ids N x, cXs ids N c.args.toList with
     | some f, some xs => if ids.df then some ⟨some dkey, .defer f xs, none, []⟩ else none
     | _, _ => none
   | _ => none
 | _, _, _ => none
def cI (draw : Bool) (ops : Array Oper) (un : Nat -> List Nat) (j : Nat) (o : Oper) : Option I :=
 match cOpD P ids N draw o with
 | some op =>
   if dstOk N o.dst then
     match o.guard with
     | none => some ⟨o.dst, op, none, if op.reads then un j else []⟩
     | some (i, want) => match (ops[i]?).bind (·.dst) with
       | some d => if d < N then some ⟨o.dst, op, some (d, want), if op.reads then un j else []⟩ else none
       | none => none
   else none
 | none => none
def cIs (draw : Bool) (ops : Array Oper) (un : Nat -> List Nat) : Nat -> List Oper -> Option (List I)
 | _, [] => some []
 | j, o :: r => match (match draw, cDefer ids N o with | false, some i => some i | _, _ => cI P ids N draw ops un j o), cIs draw ops un (j + 1) r with
   | some i, some is => some (i :: is)
   | _, _ => none

/-! A region that draws its order: who comes before whom. -/
def ancOf (acc : List (List Nat)) (o : Oper) : List Nat :=
 o.after.toList.foldl (fun s e => if Region.binds .any e then e.on :: ((acc.getD e.on []) ++ s) else s) []
def ancs : List Oper -> List (List Nat) -> List (List Nat)
 | [], acc => acc
 | o :: r, acc => ancs r (acc ++ [(ancOf acc o).eraseDups])
def anc (as : List (List Nat)) (i j : Nat) : Bool := (as.getD j []).contains i
def opChain : Op -> Bool
 | .box .. | .store .. | .makeMap .. | .mapUpdate .. | .insert .. => true
 | .call { callee := .builtin .append, .. } => true
 | .call { callee := .builtin _, .. } => false
 | .call _ => true
 | _ => false
def chains (ops : Array Oper) : List Nat := (List.range ops.size).filter fun i => match ops[i]? with | some o => opChain o.op | none => false
def unOf (ops : Array Oper) (cs : List Nat) (as : List (List Nat)) (j : Nat) : List Nat :=
 cs.filter fun i => !anc as j i && (!anc as i j || (match ops[j]? with | some { op := .alloc _, .. } => true | _ => false))
def drawOk (ops : Array Oper) (is : List I) (as : List (List Nat)) : Bool :=
 (List.range ops.size).all fun j => match ops[j]?, is[j]? with
   | some o, some i =>
     (as.getD j []).all (fun k => decide (k < j)) &&
     ((o.after.toList.all fun e => !Region.binds .any e || ((as.getD j []).contains e.on && (as.getD e.on []).all fun k => (as.getD j []).contains k)) &&
     (((as.getD j []).all fun k => o.after.toList.any fun e => Region.binds .any e && (e.on == k || (as.getD e.on []).contains k)) &&
     (List.range ops.size).all fun k => k == j || (match is[k]? with
       | none => false
       | some i' =>
         (match i'.dst with | none => true | some d => ((!i.looks.contains d) || (anc as k j || anc as j k)) && i.dst != some d) &&
         ((!(i.op.chain && i'.op.chain) || (anc as k j || anc as j k)) &&
         ((!(i.op.reads && i'.op.chain) || (anc as k j || (anc as j k || i.un.contains k))) &&
         (!(i.op.isFill && i'.op.chain) || (anc as j k || i.un.contains k)))))))
   | _, _ => false

def isCall : Op -> Bool
 | .call { callee := .builtin _, .. } => false
 | .call _ => true
 | _ => false
def lastsOf (ops : Array Oper) (as : List (List Nat)) : List Nat := (List.range ops.size).filter fun p => (match ops[p]? with | some o => isCall o.op | none => false) && (List.range ops.size).all fun i => decide (i <= p) || (as.getD i []).contains p
variable (K : Nat -> List Nat)
def keepD (id : Nat) : List Nat := if ids.df then dkey :: K id else K id
def comp : Code -> Option PC
 | .skip => some .skip
 | .region id ops false => (cIs P ids N false ops (fun _ => []) 0 ops.toList).map fun is => .region none is (keepD ids K id)
 | .region id ops true =>
   let as := ancs ops.toList []
   let cs := chains ops
   match reserved P N ops.toList, cIs P ids N true ops (unOf ops cs as) 0 ops.toList with
   | some rs, some is => if drawOk ops is as then some (.region (some rs) is (keepD ids K id) (lastsOf ops as)) else none
   | _, _ => none
 | .seq a b => match comp a, comp b with
   | some x, some y => some (.seq x y)
   | _, _ => none
 | .cond c a b => match cX ids N c, comp a, comp b with
   | some z, some x, some y => some (.cond z x y)
   | _, _, _ => none
 | .block id b => (comp b).map (.block id)
 | .loop b => (comp b).map .loop
 | .exit id => some (.exit id)
 | .ret => some .ret
 | .rangeFunc f ps a b => match cX ids N f, comp a, comp b with
   | some x, some p, some q => if (ps.toList.all fun t => decide (t < N)) = true then some (.range x ps.toList p q) else none
   | _, _, _ => none
 | .refuse _ => some (.cond (.c .nilIface) .skip .skip)
 | _ => none
def cRes (rs : List ResultVar) : Option (List PR) :=
 match rs with
 | [] => some []
 | .tmp t :: r => if t < N then (cRes r).map (.tmp t :: ·) else none
 | .cell a t :: r => if a < N then (match isAggT P t, sizeT P t, cRes r with
   | some true, some n, some ps => some (.cell a true n :: ps)
   | some false, _, some ps => some (.cell a false 1 :: ps)
   | _, _, _ => none) else none
def nilTest : List I -> Bool
 | [⟨_, .isnil false _ _, none, _⟩] => true
 | _ => false
def compB (own df : Bool) (catches : Bool) (N : Nat) (c : Code) : Option PC :=
 match catches, c with
 | true, .seq (.region id ops false) rest => match ops.toList with
   | o :: os => match o.op, o.dst, o.guard, cIs P { ids with own := own, df := df } N false ops (fun _ => []) 1 os, comp P { ids with own := own, df := df } N K rest with
     | .call { callee := .builtin .recover, .. }, some d, none, some is, some r =>
       if d < N /\ nilTest is = true then some (.seq (.region none (⟨some d, .recov, none, []⟩ :: is) (K id)) r) else none
     | _, _, _, _, _ => none
   | [] => none
 | true, _ => none
 | false, c => comp P { ids with own := own, df := df } N K c
def compF (noseal own df catches : Bool) (fn : Func) : Option PFun :=
 match fn.body with
 | some c => match compB P ids K own df catches fn.ntmps c, cRes P fn.ntmps fn.results.toList with
   | some body, some rs => if fn.params.size + fn.nfree <= fn.ntmps /\ 2 * fn.ntmps <= dkey /\ fn.name ≠ "runtime.NumGoroutine" /\ (catches = true -> df = false) then some ⟨fn.params.size + fn.nfree, rs, body, noseal, df, catches⟩ else none
   | _, _ => none
 | none => none
end
end Go.Pm
end SB
