/- The abstract machine: values, stores, instructions, and its run. No program in sight. -/
import GoSem.Dispatch
import GoSem.Step
import Derived.Laws.Sem
namespace Go.Pm

/-- Data without a place: scalars, slices that are never written, aggregates of cells. -/
inductive D where
  | lit (v : Value)
  | sl (cs : List D) (n : Nat) (full : Bool)
  | imm (cs : List D) (o : Nat)
  | agg (cs : List D)
  | iface (t : Nat) (d : D)
  deriving Inhabited

/-- Values of the abstract machine. -/
inductive V where
  | dat (d : D)
  | ptr (l o : Nat)
  | gsl (cs : List D) (n sz l : Nat)
  | msl (l o n cap : Nat)
  | agg (cs : List V)
  | fn (f : Nat) (first captured : List V)
  | mp (l : Nat)
  | iface (t : Nat) (v : V)
  | tup (vs : List V)
  | yld (l : Nat)
  deriving Inhabited

abbrev Fr := List (Nat × V)

abbrev V.lit (v : Value) : V := .dat (.lit v)
abbrev V.int (n : Int) : V := .dat (.lit (.int .i64 n))
abbrev V.bool (b : Bool) : V := .dat (.lit (.bool b))
abbrev V.str (s : ByteArray) : V := .dat (.lit (.string s))

def Fr.get : Fr → Nat → Option V
  | [], _ => none
  | (k, v) :: r, t => if k = t then some v else Fr.get r t
def Fr.put (fr : Fr) : Option Nat → V → Fr
  | none, _ => fr
  | some d, v => (d, v) :: fr
def Fr.keep (fr : Fr) : List Nat → Fr
  | [] => []
  | k :: ks => match fr.get k with
    | some v => (k, v) :: Fr.keep fr ks
    | none => Fr.keep fr ks

/-- Operands. -/
inductive X where
  | t (n : Nat)
  | c (v : Value)
  | f (id : Nat)
  deriving Inhabited
def X.ev (fr : Fr) : X → Option V
  | .t n => fr.get n
  | .c v => some (.dat (.lit v))
  | .f id => some (.fn id [] [])
def evs (fr : Fr) : List X → Option (List V)
  | [] => some []
  | x :: r => match x.ev fr, evs fr r with
    | some v, some vs => some (v :: vs)
    | _, _ => none

inductive CK where
  | int (k : IntKind)
  | intStr
  | strStr
  deriving Inhabited

/-- The kind of a map's key; what a length is asked of. -/
inductive KD where
  | b | i | s
  deriving DecidableEq, Inhabited
inductive LK where
  | str | sl | mp
  deriving DecidableEq, Inhabited

inductive O where
  | mov (x : X)
  | pick (c a b : X)
  | alloc (zero : List D)
  | box (x : X)
  | build (zero : List D) (parts : List (Nat × Nat × X))
  | bslice (n : Nat) (zero : List D) (parts : List (Nat × Nat × X))
  | load (agg : Bool) (n : Nat) (a : X)
  | store (n : Nat) (a x : X)
  | nilchk (x : X)
  | bin (op : BinOp) (x y : X)
  | eqb (neg : Bool) (x y : X)
  | un (op : UnOp) (x : X)
  | conv (k : CK) (x : X)
  | fieldAddr (off : Nat) (x : X)
  | field (agg : Bool) (off n : Nat) (x : X)
  | indexAddr (sz : Nat) (x i : X)
  | indexAddrA (len sz : Nat) (x i : X)
  | indexA (agg : Bool) (len sz : Nat) (x i : X)
  | indexS (x i : X)
  | slice (sz : Nat) (x : X) (lo hi : Option X)
  | sliceS (x : X) (lo hi : Option X)
  | len (k : LK) (x : X)
  | min (xs : List X)
  | max (xs : List X)
  | append (sz bytes : Nat) (s x : X)
  | mkmap
  | mapset (kd : KD) (m k v : X)
  | lookup (kd : KD) (zero : D) (m k : X) (ok : Bool)
  | mkfn (f : Nat) (first captured : List X)
  | extract (x : X) (i : Nat)
  | call (f : Nat) (args : List X)
  | callv (f : X) (args : List X)
  | fill (k : Nat)
  deriving Inhabited

structure I where
  dst : Option Nat
  op : O
  guard : Option (Nat × Bool)
  un : List Nat := []
  deriving Inhabited

inductive PC where
  | skip
  | region (draw : Option (List (Nat × List D))) (ops : List I) (keep : List Nat)
  | seq (a b : PC)
  | cond (c : X) (a b : PC)
  | block (id : Nat) (b : PC)
  | loop (b : PC)
  | exit (id : Nat)
  | ret
  | range (f : X) (ps : List Nat) (assign body : PC)
  deriving Inhabited

inductive Ex where
  | normal
  | exit (id : Nat)
  | ret
  deriving Inhabited

/-- A range over a function under way: the frame it stands in, what a round runs, whether it is ready (0), busy, done, at its end, and the jump that waits. -/
structure Lp where
  fr : Fr
  ps : List Nat
  assign : PC
  body : PC
  st : Nat
  pend : Option Ex
  deriving Inhabited

inductive Ob where
  | cells (cs : List V)
  | map (es : List (Value × V))
  | tip (n : Nat)
  | loop (lp : Lp)
  deriving Inhabited

abbrev S := List Ob

inductive PR where
  | tmp (t : Nat)
  | cell (t : Nat) (agg : Bool) (n : Nat)
  deriving Inhabited

structure PFun where
  np : Nat
  results : List PR
  body : PC
  noseal : Bool := false
  deriving Inhabited

inductive Task where
  | call (f : Nat) (args : List V) (σ : S)
  | loop (k : Nat) (body : PC) (fr : Fr) (σ : S)
  | round (args : List V) (σ : S)
  deriving Inhabited
inductive Res where
  | ret (v : V) (σ : S)
  | out (e : Ex) (fr : Fr) (σ : S)
  deriving Inhabited

/-! ## values -/
def allDat : List V → Option (List D)
  | [] => some []
  | .dat d :: r => match allDat r with
    | some ds => some (d :: ds)
    | none => none
  | _ :: _ => none
def V.cells : V → List V
  | .dat (.agg cs) => cs.map .dat
  | .agg cs => cs
  | v => [v]
def V.aggCells : V → Option (List V)
  | .dat (.agg cs) => some (cs.map .dat)
  | .agg cs => some cs
  | _ => none
def V.one : V → Bool
  | .dat (.lit v) => v.oneCell'
  | .dat (.agg _) => false
  | .agg _ => false
  | .tup _ => false
  | _ => true
def mkAgg (vs : List V) : V :=
  match allDat vs with
  | some ds => .dat (.agg ds)
  | none => .agg vs

mutual
def V.locs : V → List Nat
  | .dat _ => []
  | .ptr l _ => [l]
  | .gsl _ _ _ l => [l]
  | .msl l _ _ _ => [l]
  | .agg cs => locsL cs
  | .fn _ a b => locsL a ++ locsL b
  | .mp l => [l]
  | .iface _ v => v.locs
  | .tup vs => locsL vs
  | .yld l => [l]
def locsL : List V → List Nat
  | [] => []
  | v :: r => v.locs ++ locsL r
end
mutual
def V.ren (r : Nat → Nat) : V → V
  | .dat d => .dat d
  | .ptr l o => .ptr (r l) o
  | .gsl cs n sz l => .gsl cs n sz (r l)
  | .msl l o n cap => .msl (r l) o n cap
  | .agg cs => .agg (renL r cs)
  | .fn f a b => .fn f (renL r a) (renL r b)
  | .mp l => .mp (r l)
  | .iface t v => .iface t (v.ren r)
  | .tup vs => .tup (renL r vs)
  | .yld l => .yld (r l)
def renL (r : Nat → Nat) : List V → List V
  | [] => []
  | v :: vs => v.ren r :: renL r vs
end
def locsE : List (Value × V) → List Nat
  | [] => []
  | (_, v) :: r => v.locs ++ locsE r
def renE (r : Nat → Nat) : List (Value × V) → List (Value × V)
  | [] => []
  | (k, v) :: es => (k, v.ren r) :: renE r es
def locsF : Fr → List Nat
  | [] => []
  | (_, v) :: r => v.locs ++ locsF r
def renF (r : Nat → Nat) : Fr → Fr
  | [] => []
  | (k, v) :: es => (k, v.ren r) :: renF r es
def Ob.locs : Ob → List Nat
  | .cells cs => locsL cs
  | .map es => locsE es
  | .tip _ => []
  | .loop lp => locsF lp.fr
def Ob.ren (r : Nat → Nat) : Ob → Ob
  | .cells cs => .cells (renL r cs)
  | .map es => .map (renE r es)
  | .tip n => .tip n
  | .loop lp => .loop { lp with fr := renF r lp.fr }

def V.sealv : V → V
  | .gsl cs n _ _ => .dat (.sl cs n false)
  | v => v
def sealL : List V → List V
  | [] => []
  | v :: r => v.sealv :: sealL r
def V.sealT : V → V
  | .agg cs => mkAgg (sealL cs)
  | v => v.sealv
def sealTL : List V → List V
  | [] => []
  | v :: r => v.sealT :: sealTL r

/-- What is handed to a function: rows that grow are handed on as rows to read; not so to the functions from number 1000 on. -/
def argS (f : Nat) (vs : List V) : List V := if f < 1000 then sealTL vs else vs
/-! ## small stores -/
def reach (σ : S) : Nat → List Nat → List Nat → List Nat
  | _, [], seen => seen
  | 0, _, seen => seen
  | n + 1, l :: todo, seen =>
    if seen.contains l then reach σ n todo seen
    else reach σ n (todo ++ (match σ[l]? with | some ob => ob.locs | none => [])) (seen ++ [l])
def idx : List Nat → Nat → Nat
  | [], _ => 0
  | k :: ks, l => if k = l then 0 else idx ks l + 1
def nodupB : List Nat → Bool
  | [] => true
  | k :: ks => !ks.contains k && nodupB ks
def inL (L : List Nat) : List Nat → Bool
  | [] => true
  | k :: ks => L.contains k && inL L ks
def getObs (σ : S) : List Nat → Option (List Ob)
  | [] => some []
  | l :: ls => match σ[l]?, getObs σ ls with
    | some ob, some obs => some (ob :: obs)
    | _, _ => none
def closed (L : List Nat) : List Ob → Bool
  | [] => true
  | ob :: r => inL L ob.locs && closed L r
def restrict (L : List Nat) (vs : List V) (σ : S) : Option (List V × S) :=
  match getObs σ L with
  | some obs => if nodupB L && (inL L (locsL vs) && closed L obs) then some (renL (idx L) vs, obs.map (Ob.ren (idx L))) else none
  | none => none
def back (L : List Nat) (n : Nat) (i : Nat) : Nat :=
  match L[i]? with
  | some l => l
  | none => n + (i - L.length)
def writeBack (σ : S) : List Nat → List Ob → S
  | l :: ls, ob :: obs => writeBack (σ.set l ob) ls obs
  | _, obs => σ ++ obs
def doCall (C : Task → Option Res) (mk : List V → S → Task) (args : List V) (σ : S) : Option (V × S) :=
  let L := reach σ 100000 (locsL args) []
  match restrict L args σ with
  | some (args', σs) =>
    match C (mk args' σs) with
    | some (.ret v σs') => some (v.ren (back L σ.length), writeBack σ L (σs'.map (Ob.ren (back L σ.length))))
    | _ => none
  | none => none

/-! ## operations on data -/
def eqS (a b : ByteArray) : Bool := a.toList == b.toList
def eqI (a b : Int) : Bool := a == b
def binV : BinOp → Value → Value → Option Value
  | op, .int k a, .int k' b =>
    if k = k' then
      match op with
      | .add => some (.int k (k.wrap (a + b)))
      | .sub => some (.int k (k.wrap (a - b)))
      | .mul => some (.int k (k.wrap (a * b)))
      | .quo => if b = 0 then none else some (.int k (k.wrap (a.tdiv b)))
      | .rem => if b = 0 then none else some (.int k (a.tmod b))
      | .eql => some (.bool (eqI a b))
      | .neq => some (.bool (!eqI a b))
      | .lss => some (.bool (a < b))
      | .leq => some (.bool (a ≤ b))
      | .gtr => some (.bool (a > b))
      | .geq => some (.bool (a ≥ b))
      | _ => none
    else none
  | op, .string a, .string b =>
    match op with
    | .add => if ((a.size + b.size : Nat) : Int) > IntKind.i64.max then none else some (.string (a ++ b))
    | .eql => some (.bool (eqS a b))
    | .neq => some (.bool (!eqS a b))
    | .lss => some (.bool (Op.bytesLess a.toList b.toList))
    | .leq => some (.bool (Op.bytesLess a.toList b.toList || a.toList == b.toList))
    | .gtr => some (.bool (!(Op.bytesLess a.toList b.toList || a.toList == b.toList)))
    | .geq => some (.bool (!Op.bytesLess a.toList b.toList))
    | _ => none
  | _, _, _ => none
def unV : UnOp → Value → Option Value
  | .neg, .int k n => some (.int k (k.wrap (0 - n)))
  | .not, .bool b => some (.bool !b)
  | _, _ => none
def convV : CK → Value → Option Value
  | .int k, .int _ n => some (.int k (k.wrap n))
  | .intStr, .int _ n => some (.string (Utf8.encode n))
  | .strStr, .string s => some (.string s)
  | _, _ => none
def V.len (σ : S) : LK → V → Option Int
  | .sl, .dat (.lit (.slice _ n _)) => some n
  | .str, .dat (.lit (.string s)) => some s.size
  | .sl, .dat (.sl _ n _) => some n
  | .sl, .gsl _ n _ _ => some n
  | .sl, .msl _ _ n _ => some n
  | .mp, .mp l => match σ[l]? with
    | some (.map es) => some es.length
    | _ => none
  | _, _ => none
/-- The pieces laid into cells. -/
def fillV : List V → List (Nat × Nat × V) → Option (List V)
  | cs, [] => some cs
  | cs, (off, size, v) :: r =>
    let new := v.cells
    if new.length = size ∧ off + size ≤ cs.length ∧ new.all V.one then fillV (cs.take off ++ (new ++ cs.drop (off + size))) r else none
def evParts (fr : Fr) : List (Nat × Nat × X) → Option (List (Nat × Nat × V))
  | [] => some []
  | (o, s, x) :: r => match x.ev fr, evParts fr r with
    | some v, some vs => some ((o, s, v) :: vs)
    | _, _ => none
def cutCells {α : Type} (cs : List α) (o n : Nat) : Option (List α) :=
  let r := (cs.drop o).take n
  if r.length = n then some r else none
def ofCells (agg : Bool) (vs : List V) : Option V :=
  if agg then some (mkAgg vs) else match vs with
    | [v] => some v
    | _ => none
def ofDs (agg : Bool) (ds : List D) : Option V :=
  if agg then some (.dat (.agg ds)) else match ds with
    | [d] => some (.dat d)
    | _ => none
def loadV (σ : S) (agg : Bool) (n : Nat) : V → Option V
  | .ptr l o => match σ[l]? with
    | some (.cells cs) => match cutCells cs o n with
      | some vs => ofCells agg vs
      | none => none
    | _ => none
  | .dat (.imm cs o) => match cutCells cs o n with
    | some ds => ofDs agg ds
    | none => none
  | _ => none
def storeV (σ : S) (n : Nat) : V → V → Option S
  | .ptr l o, v => match σ[l]? with
    | some (.cells cs) =>
      let new := v.cells
      if new.length = n ∧ o + n ≤ cs.length ∧ new.all V.one then some (σ.set l (.cells (cs.take o ++ (new ++ cs.drop (o + n))))) else none
    | _ => none
  | _, _ => none
def addrAdd (k : Nat) : V → Option V
  | .ptr l o => some (.ptr l (o + k))
  | .dat (.imm cs o) => some (.dat (.imm cs (o + k)))
  | _ => none
def sliceAddr (sz : Nat) : V → Int → Option V
  | .dat (.sl cs n _), i => if 0 ≤ i ∧ i < n then some (.dat (.imm cs (i.toNat * sz))) else none
  | .gsl cs n _ _, i => if 0 ≤ i ∧ i < n then some (.dat (.imm cs (i.toNat * sz))) else none
  | .msl l o n _, i => if 0 ≤ i ∧ i < n then some (.ptr l (o + i.toNat * sz)) else none
  | _, _ => none
/-- Bounds of a slice expression, of length n. -/
def bound (x : Option V) (d most : Nat) : Option Nat :=
  match x with
  | none => some d
  | some (.dat (.lit (.int _ i))) => if 0 ≤ i ∧ i ≤ most then some i.toNat else none
  | _ => none
def sliceV (sz : Nat) (lo hi : Option V) : V → Option V
  | .dat (.lit (.slice a 0 0)) =>
    match bound hi 0 0 with
    | some h => match bound lo 0 h with
      | some _ => some (.dat (.lit (.slice a 0 0)))
      | none => none
    | none => none
  | .dat (.sl cs n _) =>
    match bound hi n n with
    | some h => match bound lo 0 h with
      | some l => if cs.length = n * sz then some (.dat (.sl ((cs.drop (l * sz)).take ((h - l) * sz)) (h - l) false)) else none
      | none => none
    | none => none
  | .gsl cs n _ _ =>
    match bound hi n n with
    | some h => match bound lo 0 h with
      | some l => if cs.length = n * sz then some (.dat (.sl ((cs.drop (l * sz)).take ((h - l) * sz)) (h - l) false)) else none
      | none => none
    | none => none
  | _ => none
def sliceSV (lo hi : Option V) : V → Option V
  | .dat (.lit (.string s)) =>
    match bound hi s.size s.size with
    | some h => match bound lo 0 h with
      | some l => some (.dat (.lit (.string (s.extract l h))))
      | none => none
    | none => none
  | _ => none
/-- What is appended: its cells and how many elements. -/
def srcV : V → Option (List D × Nat)
  | .dat (.lit (.slice _ 0 0)) => some ([], 0)
  | .dat (.sl cs n _) => some (cs, n)
  | .gsl cs n _ _ => some (cs, n)
  | _ => none
def roomFor (n bytes : Nat) : Bool := (2 * n + 192) * (bytes + 1) ≤ 2 ^ 48
def appendV (σ : S) (sz bytes : Nat) (s x : V) : Option (V × S) :=
  match srcV x with
  | none => none
  | some (xs, m) =>
    if xs.length = m * sz ∧ 0 < sz then
      if m = 0 then (match s with
        | .dat (.lit (.slice none 0 0)) | .dat (.sl _ _ _) | .gsl _ _ _ _ => some (s, σ)
        | _ => none)
      else match s with
        | .dat (.lit (.slice none 0 0)) => if roomFor m bytes then some (.gsl xs m sz σ.length, σ ++ [.tip xs.length]) else none
        | .dat (.sl cs n true) =>
          if roomFor (n + m) bytes ∧ cs.length = n * sz then some (.gsl (cs ++ xs) (n + m) sz σ.length, σ ++ [.tip (cs ++ xs).length]) else none
        | .gsl cs n sz' l =>
          match σ[l]? with
          | some (.tip k) =>
            if roomFor (n + m) bytes ∧ cs.length = n * sz ∧ sz' = sz ∧ k = cs.length then
              some (.gsl (cs ++ xs) (n + m) sz l, σ.set l (.tip (cs ++ xs).length)) else none
          | _ => none
        | _ => none
    else none
def keyOk : KD → Value → Bool
  | .s, .string _ | .i, .int _ _ | .b, .bool _ => true
  | _, _ => false
def sameKey : KD → Value → Value → Option Bool
  | .i, .int k a, .int k' b => if k = k' then some (a == b) else none
  | .s, .string a, .string b => some (a == b)
  | .b, .bool a, .bool b => some (a == b)
  | _, _, _ => none
def findE (kd : KD) (k : Value) : List (Value × V) → Option (Option V)
  | [] => some none
  | (k', v) :: r => match sameKey kd k k' with
    | some true => some (some v)
    | some false => findE kd k r
    | none => none
def setE (kd : KD) (k : Value) (v : V) : List (Value × V) → Option (List (Value × V))
  | [] => some [(k, v)]
  | (k', v') :: r => match sameKey kd k k' with
    | some true => some ((k, v) :: r)
    | some false => match setE kd k v r with
      | some r' => some ((k', v') :: r')
      | none => none
    | none => none
def minI : Value → List Value → Option Value
  | x, [] => some x
  | .int k x, .int _ y :: r => minI (.int k (if y < x then y else x)) r
  | _, _ => none
def maxI : Value → List Value → Option Value
  | x, [] => some x
  | .int k x, .int _ y :: r => maxI (.int k (if x < y then y else x)) r
  | _, _ => none
def lits : List V → Option (List Value)
  | [] => some []
  | .dat (.lit v) :: r => match lits r with
    | some vs => some (v :: vs)
    | none => none
  | _ => none
def optEv (fr : Fr) : Option X → Option (Option V)
  | none => some none
  | some x => match x.ev fr with
    | some v => some (some v)
    | none => none

def runO (C : Task → Option Res) (fr : Fr) (σ : S) : O → Option (V × S)
  | .mov x => match x.ev fr with
    | some v => some (v, σ)
    | none => none
  | .pick c a b => match c.ev fr with
    | some (.dat (.lit (.bool true))) => (match a.ev fr with | some v => some (v, σ) | none => none)
    | some (.dat (.lit (.bool false))) => (match b.ev fr with | some v => some (v, σ) | none => none)
    | _ => none
  | .alloc zero => some (.ptr σ.length 0, σ ++ [.cells (zero.map .dat)])
  | .box x => match x.ev fr with
    | some v => if v.cells.all V.one then some (.ptr σ.length 0, σ ++ [.cells v.cells]) else none
    | none => none
  | .build zero parts => match evParts fr parts with
    | some ps => match fillV (zero.map .dat) ps with
      | some cs => some (mkAgg cs, σ)
      | none => none
    | none => none
  | .bslice n zero parts => match evParts fr parts with
    | some ps => match fillV (zero.map .dat) ps with
      | some cs => match allDat cs with
        | some ds => some (.dat (.sl ds n true), σ)
        | none => none
      | none => none
    | none => none
  | .load agg n a => match a.ev fr with
    | some p => match loadV σ agg n p with
      | some v => some (v, σ)
      | none => none
    | none => none
  | .store n a x => match a.ev fr, x.ev fr with
    | some p, some v => match storeV σ n p v with
      | some σ' => some (.dat (.lit undef), σ')
      | none => none
    | _, _ => none
  | .nilchk x => match x.ev fr with
    | some (.ptr l o) => some (.ptr l o, σ)
    | some (.dat (.imm cs o)) => some (.dat (.imm cs o), σ)
    | _ => none
  | .bin op x y => match x.ev fr, y.ev fr with
    | some (.dat (.lit a)), some (.dat (.lit b)) => match binV op a b with
      | some v => some (.dat (.lit v), σ)
      | none => none
    | _, _ => none
  | .eqb neg x y => match x.ev fr, y.ev fr with
    | some (.dat (.lit (.bool a))), some (.dat (.lit (.bool b))) => some (.bool (if neg then !(a == b) else a == b), σ)
    | _, _ => none
  | .un op x => match x.ev fr with
    | some (.dat (.lit a)) => match unV op a with
      | some v => some (.dat (.lit v), σ)
      | none => none
    | _ => none
  | .conv k x => match x.ev fr with
    | some (.dat (.lit a)) => match convV k a with
      | some v => some (.dat (.lit v), σ)
      | none => none
    | _ => none
  | .fieldAddr off x => match x.ev fr with
    | some p => match addrAdd off p with
      | some v => some (v, σ)
      | none => none
    | none => none
  | .field agg off n x => match x.ev fr with
    | some v => match v.aggCells with
      | some cs => match cutCells cs off n with
        | some vs => match ofCells agg vs with
          | some u => some (u, σ)
          | none => none
        | none => none
      | none => none
    | none => none
  | .indexAddr sz x i => match x.ev fr, i.ev fr with
    | some s, some (.dat (.lit (.int _ n))) => match sliceAddr sz s n with
      | some v => some (v, σ)
      | none => none
    | _, _ => none
  | .indexAddrA len sz x i => match x.ev fr, i.ev fr with
    | some s, some (.dat (.lit (.int _ n))) => if 0 ≤ n ∧ n < len then (match addrAdd (n.toNat * sz) s with
      | some v => some (v, σ)
      | none => none) else none
    | _, _ => none
  | .indexA agg len sz x i => match x.ev fr, i.ev fr with
    | some v, some (.dat (.lit (.int _ n))) => if 0 ≤ n ∧ n < len then (match v.aggCells with
      | some cs => match cutCells cs (n.toNat * sz) sz with
        | some vs => match ofCells agg vs with
          | some u => some (u, σ)
          | none => none
        | none => none
      | none => none) else none
    | _, _ => none
  | .indexS x i => match x.ev fr, i.ev fr with
    | some (.dat (.lit (.string s))), some (.dat (.lit (.int _ n))) => if 0 ≤ n then (match s[n.toNat]? with
      | some b => some (.dat (.lit (.int .u8 b.toNat)), σ)
      | none => none) else none
    | _, _ => none
  | .slice sz x lo hi => match x.ev fr, optEv fr lo, optEv fr hi with
    | some v, some l, some h => match sliceV sz l h v with
      | some u => some (u, σ)
      | none => none
    | _, _, _ => none
  | .sliceS x lo hi => match x.ev fr, optEv fr lo, optEv fr hi with
    | some v, some l, some h => match sliceSV l h v with
      | some u => some (u, σ)
      | none => none
    | _, _, _ => none
  | .len k x => match x.ev fr with
    | some v => match v.len σ k with
      | some n => some (.dat (.lit (.int .i64 n)), σ)
      | none => none
    | none => none
  | .min xs => match evs fr xs with
    | some vs => match lits vs with
      | some (y :: ys) => match minI y ys with
        | some v => some (.dat (.lit v), σ)
        | none => none
      | _ => none
    | none => none
  | .max xs => match evs fr xs with
    | some vs => match lits vs with
      | some (y :: ys) => match maxI y ys with
        | some v => some (.dat (.lit v), σ)
        | none => none
      | _ => none
    | none => none
  | .append sz bytes s x => match s.ev fr, x.ev fr with
    | some a, some b => appendV σ sz bytes a b
    | _, _ => none
  | .mkmap => some (.mp σ.length, σ ++ [.map []])
  | .mapset kd m k v => match m.ev fr, k.ev fr, v.ev fr with
    | some (.mp l), some (.dat (.lit key)), some x => match σ[l]? with
      | some (.map es) => if keyOk kd key then (match setE kd key x es with
        | some es' => some (.dat (.lit undef), σ.set l (.map es'))
        | none => none) else none
      | _ => none
    | _, _, _ => none
  | .lookup kd zero m k ok => match m.ev fr, k.ev fr with
    | some (.mp l), some (.dat (.lit key)) => match σ[l]? with
      | some (.map es) => if keyOk kd key then (match findE kd key es with
        | some (some v) => some (if ok then .tup [v, .bool true] else v, σ)
        | some none => some (if ok then .tup [.dat zero, .bool false] else .dat zero, σ)
        | none => none) else none
      | _ => none
    | _, _ => none
  | .mkfn f a b => match evs fr a, evs fr b with
    | some as, some bs => some (.fn f as bs, σ)
    | _, _ => none
  | .extract x i => match x.ev fr with
    | some (.tup vs) => match vs[i]? with
      | some v => some (v, σ)
      | none => none
    | _ => none
  | .call f xs => match evs fr xs with
    | some vs => doCall C (.call f) (argS f vs) σ
    | none => none
  | .callv f xs => match f.ev fr, evs fr xs with
    | some (.fn id a b), some vs => doCall C (.call id) (a ++ argS id vs ++ b) σ
    | some (.yld l), some vs => doCall C .round (.yld l :: vs) σ
    | _, _ => none
  | .fill k => match fr.get k with
    | some (.ptr l 0) => match σ[l]? with
      | some (.cells _) => some (.ptr l 0, σ)
      | _ => none
    | _ => none

def X.tmps : X → List Nat
  | .t n => [n]
  | _ => []
def tmpsX : List X → List Nat
  | [] => []
  | x :: r => x.tmps ++ tmpsX r
def tmpsP : List (Nat × Nat × X) → List Nat
  | [] => []
  | (_, _, x) :: r => x.tmps ++ tmpsP r
def tmpsOX : Option X → List Nat
  | none => []
  | some x => x.tmps
def O.tmps : O → List Nat
  | .mov x | .box x | .load _ _ x | .nilchk x | .un _ x | .conv _ x | .fieldAddr _ x | .field _ _ _ x | .len _ x | .extract x _ => x.tmps
  | .pick c a b => c.tmps ++ (a.tmps ++ b.tmps)
  | .alloc _ | .mkmap => []
  | .build _ ps | .bslice _ _ ps => tmpsP ps
  | .store _ a x | .bin _ a x | .eqb _ a x | .indexAddr _ a x | .indexAddrA _ _ a x | .indexA _ _ _ a x | .indexS a x | .append _ _ a x | .lookup _ _ a x _ => a.tmps ++ x.tmps
  | .slice _ x l h | .sliceS x l h => x.tmps ++ (tmpsOX l ++ tmpsOX h)
  | .min xs | .max xs | .call _ xs => tmpsX xs
  | .mapset _ a b c => a.tmps ++ (b.tmps ++ c.tmps)
  | .mkfn _ a b => tmpsX a ++ tmpsX b
  | .callv f xs => f.tmps ++ tmpsX xs
  | .fill k => [k]
def I.looks (i : I) : List Nat := i.op.tmps ++ (match i.guard with | some (t, _) => [t] | none => [])

def wantedI (fr : Fr) : Option (Nat × Bool) → Option Bool
  | none => some true
  | some (t, want) => match fr.get t with
    | some (.dat (.lit (.bool b))) => some (b == want)
    | some (.dat (.lit _)) => some false
    | _ => none
def runOs (C : Task → Option Res) : List I → Fr → S → Option (Fr × S)
  | [], fr, σ => some (fr, σ)
  | i :: r, fr, σ => match wantedI fr i.guard with
    | some true => match runO C fr σ i.op with
      | some (v, σ') => runOs C r (fr.put i.dst v) σ'
      | none => none
    | some false => runOs C r (fr.put i.dst (.dat (.lit undef))) σ
    | none => none

/-- What an operation does to the store: nothing; it looks at an object; it may change the objects of a list, and make new ones behind the first n. -/
inductive Ev where
  | pure
  | read (l : Nat)
  | chain (n : Nat) (T : List Nat)
  deriving Inhabited
def locOf : Option V → List Nat
  | some v => v.locs
  | none => []
def evRead : Option V → Ev
  | some (.ptr l _) => .read l
  | some (.mp l) => .read l
  | _ => .pure
def locsO : Option (List V) → List Nat
  | some vs => locsL vs
  | none => []
def evOf (fr : Fr) (σ : S) : O → Ev
  | .load _ _ a => evRead (a.ev fr)
  | .lookup _ _ m _ _ => evRead (m.ev fr)
  | .len _ x => evRead (x.ev fr)
  | .fill k => evRead (fr.get k)
  | .alloc _ | .box _ | .mkmap => .chain σ.length []
  | .store _ a _ => .chain σ.length (locOf (a.ev fr))
  | .mapset _ m _ _ => .chain σ.length (locOf (m.ev fr))
  | .append _ _ s _ => .chain σ.length (locOf (s.ev fr))
  | .call f xs => .chain σ.length (reach σ 100000 (locsO ((evs fr xs).map (argS f))) [])
  | .callv f xs => match f.ev fr with
    | some (.fn f a b) => .chain σ.length (reach σ 100000 (locsL a ++ (locsO ((evs fr xs).map (argS f)) ++ locsL b)) [])
    | some (.yld l) => .chain σ.length (reach σ 100000 (l :: locsO (evs fr xs)) [])
    | _ => .pure
  | _ => .pure
def O.chain : O → Bool
  | .alloc _ | .box _ | .store .. | .append .. | .mkmap | .mapset .. | .call .. | .callv .. => true
  | _ => false
def O.reads : O → Bool
  | .load .. | .lookup .. | .len .. | .fill .. => true
  | _ => false
def O.isFill : O → Bool
  | .fill _ => true
  | _ => false
/-- As runOs; with a list of what each operation does. -/
def runLog (C : Task → Option Res) : List I → Fr → S → Option (List Ev × Fr × S)
  | [], fr, σ => some ([], fr, σ)
  | i :: r, fr, σ => match wantedI fr i.guard with
    | some true => match runO C fr σ i.op with
      | some (v, σ') => match runLog C r (fr.put i.dst v) σ' with
        | some (l, fr', σ'') => some (evOf fr σ i.op :: l, fr', σ'')
        | none => none
      | none => none
    | some false => match runLog C r (fr.put i.dst (.dat (.lit undef))) σ with
      | some (l, fr', σ'') => some (.pure :: l, fr', σ'')
      | none => none
    | none => none
/-- The objects that a drawn region's allocations make are reserved at its start. -/
def reserveS : List (Nat × List D) → S
  | [] => []
  | (_, z) :: r => .cells (z.map .dat) :: reserveS r
def reserveF : Nat → List (Nat × List D) → Fr → Fr
  | _, [], fr => fr
  | l, (k, _) :: r, fr => reserveF (l + 1) r ((k, .ptr l 0) :: fr)
/-- A look at l, at place j: the operations that stand in no order to it leave l alone. -/
def alone (es : List Ev) (l j : Nat) : List Nat → Bool
  | [] => true
  | i :: r => (match es[i]? with
    | some (.chain n T) => !T.contains l && (decide (j ≤ i) || decide (l < n))
    | _ => true) && alone es l j r
def calm (es : List Ev) : List I → Nat → List Ev → Bool
  | i :: is, j, e :: r => (match e with | .read l => alone es l j i.un | _ => true) && calm es is (j + 1) r
  | _, _, _ => true

def run (C : Task → Option Res) (k : Nat) : PC → Fr → S → Option (Ex × Fr × S)
  | .skip, fr, σ => some (.normal, fr, σ)
  | .region none ops keep, fr, σ => match runOs C ops fr σ with
    | some (fr', σ') => some (.normal, fr'.keep keep, σ')
    | none => none
  | .region (some rs) ops keep, fr, σ => match runLog C ops (reserveF σ.length rs fr) (σ ++ reserveS rs) with
    | some (es, fr', σ') => if calm es ops 0 es then some (.normal, fr'.keep keep, σ') else none
    | none => none
  | .seq a b, fr, σ => match run C k a fr σ with
    | some (.normal, fr', σ') => run C k b fr' σ'
    | r => r
  | .cond c a b, fr, σ => match c.ev fr with
    | some (.dat (.lit (.bool true))) => run C k a fr σ
    | some (.dat (.lit (.bool false))) => run C k b fr σ
    | _ => none
  | .block id b, fr, σ => match run C k b fr σ with
    | some (.exit id', fr', σ') => if id' = id then some (.normal, fr', σ') else some (.exit id', fr', σ')
    | r => r
  | .loop b, fr, σ => match C (.loop k b fr σ) with
    | some (.out e fr' σ') => some (e, fr', σ')
    | _ => none
  | .exit id, fr, σ => some (.exit id, fr, σ)
  | .ret, fr, σ => some (.ret, fr, σ)
  | .range f ps assign body, fr, σ => match f.ev fr with
    | some (.fn id a b) => match (if (locsF fr).all (fun l => decide (l < σ.length)) then doCall C (.call id) (a ++ (.yld σ.length :: b)) (σ ++ [.loop ⟨fr, ps, assign, body, 0, none⟩]) else none) with
      | some (_, σ') => match σ'[σ.length]? with
        | some (.loop lp) => if lp.st = 1 then none else some (lp.pend.getD .normal, fr, σ'.set σ.length (.loop { lp with st := 3 }))
        | _ => none
      | none => none
    | _ => none

def enterFr : Nat → List V → Fr
  | _, [] => []
  | i, v :: r => (i, v) :: enterFr (i + 1) r
def resV (fr : Fr) (σ : S) : List PR → Option (List V)
  | [] => some []
  | .tmp t :: r => match fr.get t, resV fr σ r with
    | some v, some vs => some (v :: vs)
    | _, _ => none
  | .cell t agg n :: r => match fr.get t with
    | some p => match loadV σ agg n p, resV fr σ r with
      | some v, some vs => some (v :: vs)
      | _, _ => none
    | none => none
def one : List V → V
  | [v] => v
  | vs => .tup vs
/-- What the first k objects and some places reach, the first k first. -/
def gcL (k : Nat) (ls : List Nat) (σ : S) : List Nat := List.range k ++ (reach σ 100000 (List.range k ++ ls) []).filter (fun l => decide (k ≤ l))
def gcF (k : Nat) (fr : Fr) (σ : S) : Option (Fr × S) :=
  let L := gcL k (locsF fr) σ
  match restrict L [] σ with
  | some (_, σ') => if inL L (locsF fr) then some (renF (idx L) fr, σ') else none
  | none => none
def putAll (fr : Fr) : List Nat → List V → Fr
  | p :: ps, v :: vs => putAll ((p, v) :: fr) ps vs
  | _, _ => fr
/-- No range over a function within. -/
def PC.flat : PC → Bool
  | .seq a b | .cond _ a b => a.flat && b.flat
  | .block _ b | .loop b => b.flat
  | .range .. => false
  | _ => true
def Lp.ended (lp : Lp) : Ex → Lp
  | .normal => { lp with st := 0, pend := none }
  | e => { lp with st := 2, pend := some e }
def Ex.isNormal : Ex → Bool
  | .normal => true
  | _ => false
def runRound (C : Task → Option Res) : List V → S → Option Res
  | .yld l :: vs, σ => match σ[l]? with
    | some (.loop lp) =>
      if vs.length = lp.ps.length ∧ (lp.st = 0 ∧ (lp.assign.flat && lp.body.flat) = true) then
        match run C σ.length lp.assign (putAll lp.fr lp.ps vs) σ with
        | some (.normal, fr1, σ1) => match σ1[l]? with
          | some (.loop lp1) => if lp1.st = 0 then (match run C σ.length lp.body fr1 (σ1.set l (.loop { lp1 with st := 1 })) with
            | some (e, _, σ2) => match σ2[l]? with
              | some (.loop lp2) => match restrict (gcL σ.length [] (σ2.set l (.loop (lp2.ended e)))) [] (σ2.set l (.loop (lp2.ended e))) with
                | some (_, σ3) => some (.ret (.bool e.isNormal) σ3)
                | none => none
              | _ => none
            | none => none) else none
          | _ => none
        | _ => none
      else none
    | _ => none
  | _, _ => none
def finish (pf : PFun) (k : Nat) (fr : Fr) (σ : S) : Option Res :=
  match resV fr σ pf.results with
  | some vs0 =>
    let vs := if pf.noseal then vs0 else sealTL vs0
    match restrict (gcL k (locsL vs) σ) vs σ with
    | some (vs', σ') => some (.ret (one vs') σ')
    | none => none
  | none => none
def callBody (C : Task → Option Res) (pf : PFun) (args : List V) (σ : S) : Option Res :=
  if args.length = pf.np then
    match run C σ.length pf.body (enterFr 0 args) σ with
    | some (.normal, fr, σ') => finish pf σ.length fr σ'
    | some (.ret, fr, σ') => finish pf σ.length fr σ'
    | _ => none
  else none
def exec (prog : Nat → Option PFun) : Nat → Task → Option Res
  | 0, _ => none
  | n + 1, .call f args σ => match prog f with
    | some pf => callBody (exec prog n) pf args σ
    | none => none
  | n + 1, .loop k b fr σ => match gcF k fr σ with
    | some (fr0, σ0) => match run (exec prog n) k b fr0 σ0 with
      | some (.normal, fr', σ') => exec prog n (.loop k b fr' σ')
      | some (e, fr', σ') => some (.out e fr' σ')
      | none => none
    | none => none
  | n + 1, .round args σ => runRound (exec prog n) args σ
end Go.Pm
