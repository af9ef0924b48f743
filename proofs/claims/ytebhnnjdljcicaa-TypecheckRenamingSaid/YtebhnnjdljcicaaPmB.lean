/- From the given code to the abstract machine's. -/
import Derived.Test.YtebhnnjdljcicaaPmA
import Derived.Orders
namespace Go.Pm

section
variable (P : Program) (ids : FuncId → Option Nat) (N : Nat)

def isAggT (t : TypeId) : Option Bool :=
  match P.underlying t with
  | some (.struct _) => some true
  | some (.array _ _) => some true
  | some _ => some false
  | none => none
def sizeT (t : TypeId) : Option Nat := (P.info? t).map (·.size)
def bytesT (t : TypeId) : Option Nat := (P.info? t).map (·.bytes)
def noAgg : Value → Bool
  | .agg _ => false
  | _ => true
def litCells (v : Value) : List D := v.cells.toList.map .lit
def cellsOk (v : Value) : Bool := v.cells.toList.all fun x => noAgg x && x.oneCell'
def toD : Value → D
  | .agg cs => .agg (cs.toList.map .lit)
  | v => .lit v
def zeroT (t : TypeId) : Option Value := match (P.info? t).bind (·.zero) with
  | some z => if cellsOk z then some z else none
  | none => none
def kdT (t : TypeId) : Option KD :=
  match P.underlying t with
  | some .bool => some .b
  | some (.int _) => some .i
  | some .string => some .s
  | _ => none

def cX : Operand → Option X
  | .tmp t => if t < N then some (.t t) else none
  | .const v => if noAgg v then some (.c v) else none
  | .global _ => none
  | .func f => (ids f).map .f
def cXs : List Operand → Option (List X)
  | [] => some []
  | x :: r => match cX ids N x, cXs r with
    | some y, some ys => some (y :: ys)
    | _, _ => none
def cOX : Option Operand → Option (Option X)
  | none => some none
  | some x => (cX ids N x).map some
def placesT : List Field → Option (List (Nat × Nat))
  | [] => some []
  | f :: r => match sizeT P f.type, placesT r with
    | some n, some ps => some ((f.offset, n) :: ps)
    | _, _ => none
def cParts (place : Nat → Option (Nat × Nat)) : List (Nat × Operand) → Option (List (Nat × Nat × X))
  | [] => some []
  | (i, x) :: r => match place i, cX ids N x, cParts place r with
    | some (o, n), some y, some ys => some ((o, n, y) :: ys)
    | _, _, _ => none
def repl {α : Type} : Nat → List α → List α
  | 0, _ => []
  | n + 1, l => l ++ repl n l

def cCall (c : Call) : Option O :=
  match c.callee with
  | .value (.func f) => match ids f, cXs ids N c.args.toList with
    | some g, some xs => some (.call g xs)
    | _, _ => none
  | .value x => match cX ids N x, cXs ids N c.args.toList with
    | some g, some xs => some (.callv g xs)
    | _, _ => none
  | .invoke _ _ => none
  | .builtin b => match b, c.args.toList, c.argTypes.toList with
    | .len, [x], [t] => match P.underlying t, cX ids N x with
      | some .string, some y => some (.len .str y)
      | some (.slice _), some y => some (.len .sl y)
      | some (.map _ _), some y => some (.len .mp y)
      | _, _ => none
    | .min, xs, _ => (cXs ids N xs).map .min
    | .max, xs, _ => (cXs ids N xs).map .max
    | .append, [s, x], [ts, tx] => match P.underlying ts, P.underlying tx, cX ids N s, cX ids N x with
      | some (.slice e), some (.slice _), some s', some x' => match sizeT P e, bytesT P e, zeroT P e with
        | some n, some b, some z => if z.cells.size = n then some (.append n b s' x') else none
        | _, _, _ => none
      | _, _, _, _ => none
    | _, _, _ => none

def cOp : Op → Option O
  | .move x => (cX ids N x).map .mov
  | .assign x => (cX ids N x).map .mov
  | .pick c a b => match cX ids N c, cX ids N a, cX ids N b with
    | some c', some a', some b' => some (.pick c' a' b')
    | _, _, _ => none
  | .alloc t => (zeroT P t).map fun z => .alloc (litCells z)
  | .box _ x => (cX ids N x).map .box
  | .build t parts => match P.underlying t, zeroT P t with
    | some (.struct fields), some z => match placesT P fields.toList with
      | some ps => (cParts ids N (fun i => ps[i]?) parts.toList).map (.build (litCells z))
      | none => none
    | some (.array _ e), some z => match sizeT P e with
      | some n => (cParts ids N (fun i => some (i * n, n)) parts.toList).map (.build (litCells z))
      | none => none
    | _, _ => none
  | .buildSlice t len parts => match P.underlying t with
    | some (.slice e) => match sizeT P e, zeroT P e with
      | some n, some z => if len * n ≤ 2 ^ 24 ∧ z.cells.size = n ∧ 0 < n ∧ 0 < len then (cParts ids N (fun i => some (i * n, n)) parts.toList).map (.bslice len (repl len (litCells z))) else none
      | _, _ => none
    | _ => none
  | .load t a => match isAggT P t, sizeT P t, cX ids N a with
    | some true, some n, some x => some (.load true n x)
    | some false, _, some x => some (.load false 1 x)
    | _, _, _ => none
  | .store t a v => match sizeT P t, cX ids N a, cX ids N v with
    | some n, some x, some y => some (.store n x y)
    | _, _, _ => none
  | .nilCheck x => (cX ids N x).map .nilchk
  | .binOp op t x y _ => match cX ids N x, cX ids N y with
    | some a, some b => match op, P.underlying t with
      | .eql, some .bool => some (.eqb false a b)
      | .neq, some .bool => some (.eqb true a b)
      | _, _ => some (.bin op a b)
    | _, _ => none
  | .unOp op _ x => (cX ids N x).map (.un op)
  | .convert src dst x => match P.underlying src, P.underlying dst, cX ids N x with
    | some _, some (.int k), some y => some (.conv (.int k) y)
    | some (.int _), some .string, some y => some (.conv .intStr y)
    | some .string, some .string, some y => some (.conv .strStr y)
    | _, _, _ => none
  | .fieldAddr s x f => match P.underlying s, cX ids N x with
    | some (.struct fields), some y => match fields[f]? with
      | some fd => if sizeT P fd.type = some 0 then none else (sizeT P fd.type).map fun _ => .fieldAddr fd.offset y
      | none => none
    | _, _ => none
  | .field t x f => match P.underlying t, cX ids N x with
    | some (.struct fields), some y => match fields[f]? with
      | some fd => match isAggT P fd.type, sizeT P fd.type with
        | some true, some n => some (.field true fd.offset n y)
        | some false, _ => some (.field false fd.offset 1 y)
        | _, _ => none
      | none => none
    | _, _ => none
  | .indexAddr t x i => match P.underlying t, cX ids N x, cX ids N i with
    | some (.slice e), some y, some j => (sizeT P e).map fun n => .indexAddr n y j
    | some (.array len e), some y, some j => (sizeT P e).map fun n => .indexAddrA len n y j
    | _, _, _ => none
  | .index t x i => match P.underlying t, cX ids N x, cX ids N i with
    | some (.array len e), some y, some j => match isAggT P e, sizeT P e with
      | some true, some n => some (.indexA true len n y j)
      | some false, some n => if n = 1 then some (.indexA false len 1 y j) else none
      | _, _ => none
    | some .string, some y, some j => some (.indexS y j)
    | _, _, _ => none
  | .slice t x lo hi mx => match mx, P.underlying t, cX ids N x, cOX ids N lo, cOX ids N hi with
    | none, some (.slice e), some y, some l, some h => (sizeT P e).map fun n => .slice n y l h
    | none, some .string, some y, some l, some h => some (.sliceS y l h)
    | _, _, _, _, _ => none
  | .makeMap t r => match r, P.underlying t with
    | none, some _ => some .mkmap
    | _, _ => none
  | .mapUpdate t m k x => match P.underlying t, cX ids N m, cX ids N k, cX ids N x with
    | some (.map kt _), some a, some b, some c => (kdT P kt).map fun kd => .mapset kd a b c
    | _, _, _, _ => none
  | .insert t m k x => match P.underlying t, cX ids N m, cX ids N k, cX ids N x with
    | some (.map kt _), some a, some b, some c => (kdT P kt).map fun kd => .mapset kd a b c
    | _, _, _, _ => none
  | .lookup t m k ok => match P.underlying t, cX ids N m, cX ids N k with
    | some (.map kt e), some a, some b => match kdT P kt, zeroT P e with
      | some kd, some z => some (.lookup kd (toD z) a b ok)
      | _, _ => none
    | _, _, _ => none
  | .makeFunc (.func f) a b => match ids f, cXs ids N a.toList, cXs ids N b.toList with
    | some g, some as, some bs => some (.mkfn g as bs)
    | _, _, _ => none
  | .extract x i => (cX ids N x).map fun y => .extract y i
  | .call c => cCall P ids N c
  | _ => none

/-- In a drawn region an allocation takes what was reserved for it, under a key of its own. -/
def cOpD (draw : Bool) (o : Oper) : Option O :=
  match draw, o.op, o.dst, o.guard with
  | true, .alloc _, some d, none => some (.fill (N + d))
  | true, .alloc _, _, _ => none
  | _, op, _, _ => cOp P ids N op
def reserved : List Oper → Option (List (Nat × List D))
  | [] => some []
  | o :: r => match o.op, o.dst with
    | .alloc t, some d => match zeroT P t, reserved r with
      | some z, some rs => some ((N + d, litCells z) :: rs)
      | _, _ => none
    | _, _ => reserved r
def dstOk (N : Nat) : Option Nat → Bool
  | some d => decide (d < N)
  | none => true
def cI (draw : Bool) (ops : Array Oper) (un : Nat → List Nat) (j : Nat) (o : Oper) : Option I :=
  match cOpD P ids N draw o with
  | some op =>
    if dstOk N o.dst then
      match o.guard with
      | none => some ⟨o.dst, op, none, if op.reads then un j else []⟩
      | some (i, want) => match (ops[i]?).bind (·.dst) with
        | some d => if d < N then some ⟨o.dst, op, some (d, want), if op.reads then un j else []⟩ else none
        | none => none
    else none
  | none => none
def cIs (draw : Bool) (ops : Array Oper) (un : Nat → List Nat) : Nat → List Oper → Option (List I)
  | _, [] => some []
  | j, o :: r => match cI P ids N draw ops un j o, cIs draw ops un (j + 1) r with
    | some i, some is => some (i :: is)
    | _, _ => none

/-! A region that draws its order: who comes before whom. -/
def ancOf (acc : List (List Nat)) (o : Oper) : List Nat :=
  o.after.toList.foldl (fun s e => if Region.binds .any e then e.on :: ((acc.getD e.on []) ++ s) else s) []
def ancs : List Oper → List (List Nat) → List (List Nat)
  | [], acc => acc
  | o :: r, acc => ancs r (acc ++ [(ancOf acc o).eraseDups])
def anc (as : List (List Nat)) (i j : Nat) : Bool := (as.getD j []).contains i
/-- The operations that may change the store. -/
def opChain : Op → Bool
  | .box .. | .store .. | .makeMap .. | .mapUpdate .. | .insert .. => true
  | .call { callee := .builtin .append, .. } => true
  | .call { callee := .builtin _, .. } => false
  | .call _ => true
  | _ => false
def chains (ops : Array Oper) : List Nat := (List.range ops.size).filter fun i => match ops[i]? with | some o => opChain o.op | none => false
def unOf (ops : Array Oper) (cs : List Nat) (as : List (List Nat)) (j : Nat) : List Nat :=
  cs.filter fun i => !anc as j i && (!anc as i j || (match ops[j]? with | some { op := .alloc _, .. } => true | _ => false))
def drawOk (ops : Array Oper) (is : List I) (as : List (List Nat)) : Bool :=
  (List.range ops.size).all fun j => match ops[j]?, is[j]? with
    | some o, some i =>
      (as.getD j []).all (fun k => decide (k < j)) &&
      ((o.after.toList.all fun e => !Region.binds .any e || ((as.getD j []).contains e.on && (as.getD e.on []).all fun k => (as.getD j []).contains k)) &&
      (((as.getD j []).all fun k => o.after.toList.any fun e => Region.binds .any e && (e.on == k || (as.getD e.on []).contains k)) &&
      (List.range ops.size).all fun k => k == j || (match is[k]? with
        | none => false
        | some i' =>
          (match i'.dst with | none => true | some d => ((!i.looks.contains d) || (anc as k j || anc as j k)) && i.dst != some d) &&
          ((!(i.op.chain && i'.op.chain) || (anc as k j || anc as j k)) &&
          ((!(i.op.reads && i'.op.chain) || (anc as k j || (anc as j k || i.un.contains k))) &&
          (!(i.op.isFill && i'.op.chain) || (anc as j k || i.un.contains k)))))))
    | _, _ => false

variable (K : Nat → List Nat)
def comp : Code → Option PC
  | .skip => some .skip
  | .region id ops false => (cIs P ids N false ops (fun _ => []) 0 ops.toList).map fun is => .region none is (K id)
  | .region id ops true =>
    let as := ancs ops.toList []
    let cs := chains ops
    match reserved P N ops.toList, cIs P ids N true ops (unOf ops cs as) 0 ops.toList with
    | some rs, some is => if drawOk ops is as then some (.region (some rs) is (K id)) else none
    | _, _ => none
  | .seq a b => match comp a, comp b with
    | some x, some y => some (.seq x y)
    | _, _ => none
  | .cond c a b => match cX ids N c, comp a, comp b with
    | some z, some x, some y => some (.cond z x y)
    | _, _, _ => none
  | .block id b => (comp b).map (.block id)
  | .loop b => (comp b).map .loop
  | .exit id => some (.exit id)
  | .ret => some .ret
  | .rangeFunc f ps a b => match cX ids N f, comp a, comp b with
    | some x, some p, some q => if (ps.toList.all fun t => decide (t < N)) = true then some (.range x ps.toList p q) else none
    | _, _, _ => none
  | _ => none
def cRes (rs : List ResultVar) : Option (List PR) :=
  match rs with
  | [] => some []
  | .tmp t :: r => if t < N then (cRes r).map (.tmp t :: ·) else none
  | .cell a t :: r => if a < N then (match isAggT P t, sizeT P t, cRes r with
    | some true, some n, some ps => some (.cell a true n :: ps)
    | some false, _, some ps => some (.cell a false 1 :: ps)
    | _, _, _ => none) else none
def compF (noseal : Bool) (fn : Func) : Option PFun :=
  match fn.body with
  | some c => match comp P ids fn.ntmps K c, cRes P fn.ntmps fn.results.toList with
    | some body, some rs => if fn.params.size + fn.nfree ≤ fn.ntmps ∧ fn.name ≠ "runtime.NumGoroutine" then some ⟨fn.params.size + fn.nfree, rs, body, noseal⟩ else none
    | _, _ => none
  | none => none
end
end Go.Pm
