/- The run again, in small steps for the kernel: each operation a definition of its own. -/
import Derived.Test.YtmigbfimahjacaaGreatDoorPmR
import Derived.Test.YtmigbfimahjacaaGreatDoorPmAL
import Derived.IntWalk
import GoSem.ClaimSeven
import Derived.DataReads
import Derived.Below
import Derived.OpenShut
import Derived.FnData
import Derived.LaidMore
set_option linter.unusedSimpArgs false
set_option linter.unusedVariables false
namespace Go.Pm
section
noncomputable def qkF (C:Task->Option Res) (fr:Fr) (σ : S) (x:X):Option (V × S):=match evK fr x with
  |some v=>some (v,σ)
  |none=>none
noncomputable def qhC (C:Task->Option Res) (fr:Fr) (σ : S) (c:X) (a:X) (b:X):Option (V × S):=match evK fr c with
  |some (.dat (.lit (.bool true)))=>(match evK fr a with|some v=>some (v,σ) | none=>none)
  |some (.dat (.lit (.bool false)))=>(match evK fr b with|some v=>some (v,σ) | none=>none)
  |_=>none
noncomputable def qfO(C:Task->Option Res)(fr:Fr)(σ : S)(zero:List D):Option (V × S):=qxY (zero.map .dat) fun cs=>qrn (σ ++ [.cells cs]) fun s=>some (.ptr σ.length 0,s)
noncomputable def qkG (C:Task->Option Res) (fr:Fr) (σ : S) (x:X):Option (V × S):=qjH <| match evK fr x with
  |some v=>if v.cells.all V.one then some (.ptr σ.length 0,σ ++ [.cells v.cells]) else none
  |none=>none
noncomputable def qfP (C:Task->Option Res) (fr:Fr) (σ : S) (zero:List D) (parts:List (Nat × Nat × X)):Option (V × S):=qjH <| match qcf fr parts with
  |some ps=>match qdu (zero.map .dat) ps with
   |some cs=>some (qc6 cs,σ)
   |none=>none
  |none=>none
noncomputable def qew (C:Task->Option Res) (fr:Fr) (σ : S) (n:Nat) (zero:List D) (parts:List (Nat × Nat × X)):Option (V × S):=qjH <| match qcf fr parts with
  |some ps=>match qdu (zero.map .dat) ps with
   |some cs=>match qaI (qdQ cs) with
    |some ds=>some (.dat (.sl ds n true),σ)
    |none=>some (.rw (qdQ cs) n,σ)
   |none=>none
  |none=>none
noncomputable def qdG (C:Task->Option Res) (fr:Fr) (σ : S) (n:Nat) (sz:Nat) (zero:List D) (parts:List (Nat × Nat × X)):Option (V × S):=qjH <| match qcf fr parts with
  |some ps=>match qdu (zero.map .dat) ps with
   |some cs=>match qaI cs with
    |some _=>some (.own σ.length n sz,σ ++ [.vec cs])
    |none=>none
   |none=>none
  |none=>none
noncomputable def qhD (C:Task->Option Res) (fr:Fr) (σ : S) (agg:Bool) (n:Nat) (a:X):Option (V × S):=match evK fr a with
  |some p=>match qco σ agg n p with
   |some v=>some (v,σ)
   |none=>none
  |none=>none
noncomputable def qfQ (C:Task->Option Res) (fr:Fr) (σ : S) (n:Nat) (a:X) (x:X):Option (V × S):=match evK fr a,evK fr x with
  |some p,some v=>match qma σ n p v with
   |some σ'=>some (.dat (.lit undef),σ')
   |none=>none
  |_,_=>none
noncomputable def qex (C:Task->Option Res) (fr:Fr) (σ : S) (x:X):Option (V × S):=match evK fr x with
  |some (.ptr l o)=>some (.ptr l o,σ)
  |some (.dat (.imm cs o))=>some (.dat (.imm cs o),σ)
  |some (.eptr l n o)=>some (.eptr l n o,σ)
  |some (.bm g (.ptr l o))=>some (.bm g (.ptr l o),σ)
  |some (.iface t v)=>some (.iface t v,σ)
  |_=>none
noncomputable def qkH (C:Task->Option Res) (fr:Fr) (σ : S) (op:BinOp) (x:X) (y:X):Option (V × S):=qoQ <| match evK fr x,evK fr y with
  |some (.dat (.lit a)),some (.dat (.lit b))=>match qrf op a b with
   |some v=>some (.dat (.lit v),σ)
   |none=>none
  |_,_=>none
noncomputable def qfR (C:Task->Option Res) (fr:Fr) (σ : S) (p:Bool) (neg:Bool) (x:X):Option (V × S):=qoQ <| match evK fr x with
  |some v=>match qvm p v with
   |some b=>some (.bool (if neg then !b else b),σ)
   |none=>none
  |none=>none
noncomputable def qey (C:Task->Option Res) (fr:Fr) (σ : S) (neg:Bool) (x:X):Option (V × S):=qoQ <| match evK fr x with
  |some v=>match qrG v with
   |some b=>some (.bool (if neg then !b else b),σ)
   |none=>none
  |none=>none
noncomputable def qhE (C:Task->Option Res) (fr:Fr) (σ : S) (t:Nat) (x:X):Option (V × S):=match evK fr x with
  |some v=>some (.iface t v,σ)
  |none=>none
noncomputable def qez (C:Task->Option Res) (fr:Fr) (σ : S) (tbl:List (Nat × Nat)) (x:X):Option (V × S):=match evK fr x with
  |some (.iface t v)=>match tbl.lookup t with
   |some g=>some (.bm g v,σ)
   |none=>none
  |_=>none
noncomputable def qfS (C:Task->Option Res) (fr:Fr) (σ : S) (x:X):Option (V × S):=match evK fr x with
  |some (.dat (.lit (.string s)))=>if (s.size:Int)<=2 ^ 40 then some (.dat (.sl (qeO s) s.size false),σ) else none
  |_=>none
noncomputable def qdH (C:Task->Option Res) (fr:Fr) (σ : S) (own:Bool) (z:List D) (b:Nat) (x:X) (y:X):Option (V × S):=qjH <| match evK fr x,evK fr y with
  |some (.dat (.lit (.int _ l))),some (.dat (.lit (.int _ c)))=>
   if 0<=l/\l<=c/\c<=2 ^ 40/\b*c<=2 ^ 48 then
    (if own then some (.own σ.length l.toNat z.length,σ ++ [.vec ((qbU l.toNat z).map .dat)])
    else some (.msl σ.length 0 l.toNat c.toNat z.length,σ ++ [.cells ((qbU c.toNat z).map .dat)])) else none
  |_,_=>none
noncomputable def qkI (C:Task->Option Res) (fr:Fr) (σ : S) (neg:Bool) (x:X) (y:X):Option (V × S):=qoQ <| match evK fr x,evK fr y with
  |some (.dat (.lit (.bool a))),some (.dat (.lit (.bool b)))=>some (.bool (if neg then !(a==b) else a==b),σ)
  |_,_=>none
noncomputable def qkJ (C:Task->Option Res) (fr:Fr) (σ : S) (neg:Bool) (kds:List KD) (x:X) (y:X):Option (V × S):=qoQ <| match evK fr x,evK fr y with
  |some (.dat (.agg as)),some (.dat (.agg bs))=>match qfk kds as bs with
   |some b=>some (.bool (if neg then !b else b),σ)
   |none=>none
  |_,_=>none
noncomputable def qpp (C:Task->Option Res) (fr:Fr) (σ : S) (op:UnOp) (x:X):Option (V × S):=qoQ <| match evK fr x with
  |some (.dat (.lit a))=>match unV op a with
   |some v=>some (.dat (.lit v),σ)
   |none=>none
  |_=>none
noncomputable def qhF (C:Task->Option Res) (fr:Fr) (σ : S) (k:CK) (x:X):Option (V × S):=qoQ <| match evK fr x with
  |some (.dat (.lit a))=>match qpK k a with
   |some v=>some (.dat (.lit v),σ)
   |none=>none
  |_=>none
noncomputable def qcD (C:Task->Option Res) (fr:Fr) (σ : S) (off:Nat) (x:X):Option (V × S):=match evK fr x with
  |some p=>match qcJ off p with
   |some v=>some (v,σ)
   |none=>none
  |none=>none
noncomputable def qfT (C:Task->Option Res) (fr:Fr) (σ : S) (agg:Bool) (off:Nat) (n:Nat) (x:X):Option (V × S):=match evK fr x with
  |some v=>match v.aggCells with
   |some cs=>match qad cs off n with
    |some vs=>match qbV agg vs with
     |some u=>some (u,σ)
     |none=>none
    |none=>none
   |none=>none
  |none=>none
noncomputable def qcE (C:Task->Option Res) (fr:Fr) (σ : S) (sz:Nat) (x:X) (i:X):Option (V × S):=match evK fr x,evK fr i with
  |some s,some (.dat (.lit (.int _ n)))=>match qai sz s n with
   |some v=>some (v,σ)
   |none=>none
  |_,_=>none
noncomputable def qce (C:Task->Option Res) (fr:Fr) (σ : S) (len:Nat) (sz:Nat) (x:X) (i:X):Option (V × S):=match evK fr x,evK fr i with
  |some s,some (.dat (.lit (.int _ n)))=>if 0<=n/\n<len then (match qcJ (n.toNat*sz) s with
   |some v=>some (v,σ)
   |none=>none) else none
  |_,_=>none
noncomputable def qeA (C:Task->Option Res) (fr:Fr) (σ : S) (agg:Bool) (len:Nat) (sz:Nat) (x:X) (i:X):Option (V × S):=match evK fr x,evK fr i with
  |some v,some (.dat (.lit (.int _ n)))=>if 0<=n/\n<len then (match v.aggCells with
   |some cs=>match qad cs (n.toNat*sz) sz with
    |some vs=>match qbV agg vs with
     |some u=>some (u,σ)
     |none=>none
    |none=>none
   |none=>none) else none
  |_,_=>none
noncomputable def qeB (C:Task->Option Res) (fr:Fr) (σ : S) (x:X) (i:X):Option (V × S):=qoQ <| match evK fr x,evK fr i with
  |some (.dat (.lit (.string s))),some (.dat (.lit (.int _ n)))=>if 0<=n then (match s[n.toNat]? with
   |some b=>some (.dat (.lit (.int .u8 b.toNat)),σ)
   |none=>none) else none
  |_,_=>none
noncomputable def qfU (C:Task->Option Res) (fr:Fr) (σ : S) (sz:Nat) (x:X) (lo:Option X) (hi:Option X):Option (V × S):=match evK fr x,qci fr lo,qci fr hi with
  |some v,some l,some h=>match qcL sz l h v with
   |some u=>some (u,σ)
   |none=>none
  |_,_,_=>none
noncomputable def qeC (C:Task->Option Res) (fr:Fr) (σ : S) (x:X) (lo:Option X) (hi:Option X):Option (V × S):=match evK fr x,qci fr lo,qci fr hi with
  |some v,some l,some h=>match qjY l h v with
   |some u=>some (u,σ)
   |none=>none
  |_,_,_=>none
noncomputable def qkK (C:Task->Option Res) (fr:Fr) (σ : S) (k:LK) (x:X):Option (V × S):=qoQ <| match evK fr x with
  |some v=>match v.len σ k with
   |some n=>some (.dat (.lit (.int .i64 n)),σ)
   |none=>none
  |none=>none
noncomputable def qkL (C:Task->Option Res) (fr:Fr) (σ : S) (xs:List X):Option (V × S):=qoQ <| match qnW fr xs with
  |some vs=>match qmx vs with
   |some (y::ys)=>match qpM y ys with
    |some v=>some (.dat (.lit v),σ)
    |none=>none
   |_=>none
  |none=>none
noncomputable def qkM (C:Task->Option Res) (fr:Fr) (σ : S) (xs:List X):Option (V × S):=qoQ <| match qnW fr xs with
  |some vs=>match qmx vs with
   |some (y::ys)=>match qpN y ys with
    |some v=>some (.dat (.lit v),σ)
    |none=>none
   |_=>none
  |none=>none
noncomputable def qeD (C:Task->Option Res) (fr:Fr) (σ : S) (sz:Nat) (bytes:Nat) (s:X) (x:X):Option (V × S):=match evK fr s,evK fr x with
  |some a,some b=>qjH (qbs σ sz bytes a b)
  |_,_=>none
noncomputable def qdI (C:Task->Option Res) (fr:Fr) (σ : S) (sz:Nat) (bytes:Nat) (s:X) (x:X):Option (V × S):=match evK fr s,evK fr x with
  |some a,some b=>qjH (appendO σ sz bytes a b)
  |_,_=>none
noncomputable def qkN (C:Task->Option Res) (fr:Fr) (σ : S) (sz:Nat) (x:X) (lo:Option X) (hi:Option X):Option (V × S):=match evK fr x,qci fr lo,qci fr hi with
  |some v,some l,some h=>qjH (qvo σ sz l h v)
  |_,_,_=>none
noncomputable def qfV(C:Task->Option Res)(fr:Fr)(σ : S):Option (V × S):=qjH <| some (.mp σ.length,σ ++ [.map []])
noncomputable def qeE (C:Task->Option Res) (fr:Fr) (σ : S) (kd:KD) (m:X) (k:X) (v:X):Option (V × S):=match evK fr m,evK fr k,evK fr v with
  |some (.mp l),some (.dat (.lit key)),some x=>match qkq σ l with
   |some (.map es)=>if qos kd key then (match qtQ kd key x es with
    |some es'=>some (.dat (.lit undef),σ.set l (.map es'))
    |none=>none) else none
   |_=>none
  |_,_,_=>none
noncomputable def qeF (C:Task->Option Res) (fr:Fr) (σ : S) (kd:KD) (zero:D) (m:X) (k:X) (ok:Bool):Option (V × S):=match evK fr m,evK fr k with
  |some (.mp l),some (.dat (.lit key))=>match qkq σ l with
   |some (.map es)=>if qos kd key then (match qmw kd key es with
    |some (some v)=>some (if ok then .tup [v,.bool true] else v,σ)
    |some none=>some (if ok then .tup [.dat zero,.bool false] else .dat zero,σ)
    |none=>none) else none
   |_=>none
  |_,_=>none
noncomputable def qhG (C:Task->Option Res) (fr:Fr) (σ : S) (f:Nat) (a:List X) (b:List X):Option (V × S):=match qnW fr a,qnW fr b with
  |some as,some bs=>some (.fn f as bs,σ)
  |_,_=>none
noncomputable def qdJ (C:Task->Option Res) (fr:Fr) (σ : S) (x:X) (i:Nat):Option (V × S):=match evK fr x with
  |some (.tup vs)=>match vs[i]? with
   |some v=>some (v,σ)
   |none=>none
  |_=>none
noncomputable def qhH (C:Task->Option Res) (fr:Fr) (σ : S) (f:Nat) (xs:List X):Option (V × S):=match qnW fr xs with
  |some vs=>qdt C (.call f) (qbT f vs σ).1 (qbT f vs σ).2
  |none=>none
noncomputable def qeG (C:Task->Option Res) (fr:Fr) (σ : S) (tbl:List (Nat × Nat)) (x:X) (xs:List X):Option (V × S):=match evK fr x,qnW fr xs with
  |some (.iface t v),some vs=>match tbl.lookup t with
   |some g=>qdt C (.call g) (qbT g (v::vs) σ).1 (qbT g (v::vs) σ).2
   |none=>none
  |_,_=>none
noncomputable def qfW (C:Task->Option Res) (fr:Fr) (σ : S) (f:X) (xs:List X):Option (V × S):=match evK fr f,qnW fr xs with
  |some (.fn id a b),some vs=>qdt C (.call id) (a++(qbT id vs σ).1++b) (qbT id vs σ).2
  |some (.bm g v),some vs=>qdt C (.call g) (qbT g (v::vs) σ).1 (qbT g (v::vs) σ).2
  |some (.yld l),some vs=>qdt C .round (.yld l::vs) σ
  |_,_=>none
noncomputable def qfX (C:Task->Option Res) (fr:Fr) (σ : S) (f:X) (xs:List X):Option (V × S):=match evK fr f,qnW fr xs with
  |some (.fn id a b),some vs=>some (.tup (.fn id (a++vs++b) []::fr.defs),σ)
  |_,_=>none
noncomputable def qfY(C:Task->Option Res)(fr:Fr)(σ : S)(_panic0:X):Option (V × S):=none
noncomputable def qfZ (C:Task->Option Res) (fr:Fr) (σ : S):Option (V × S):=match qtk qjX fr with
  |some v=>some (v,σ)
  |none=>none
noncomputable def qhI (C:Task->Option Res) (fr:Fr) (σ : S) (t:Nat) (x:X):Option (V × S):=qjH <| match evK fr x with
  |some v=>if v.cells.all V.one then some (.ptr σ.length 0,σ ++ [.cellsT t v.cells]) else none
  |none=>none
noncomputable def qdK (C:Task->Option Res) (fr:Fr) (σ : S) (t:Nat) (sz:Nat) (bytes:Nat) (s:X) (x:X):Option (V × S):=match evK fr s,evK fr x with
  |some a,some b=>qjH (appendT σ t sz bytes a b)
  |_,_=>none
noncomputable def qpq (C:Task->Option Res) (fr:Fr) (σ : S) (x:X):Option (V × S):=qjH <| match evK fr x with
  |some (.ptr l o)=>match qkq σ l with
   |some (.cellsT _ cs)=>if o<cs.length then some (.ptr l o,σ) else none
   |_=>none
  |_=>none
noncomputable def qhJ (C:Task->Option Res) (fr:Fr) (σ : S) (ts:List (Nat × Nat)) (x:X):Option (V × S):=qjH <| match evK fr x with
  |some (.ptr l 0)=>match qkq σ l with
   |some (.cellsT t cs)=>if ts.contains (t,cs.length)=true then some (.ptr l 0,σ) else none
   |_=>none
  |_=>none
noncomputable def qkO (C:Task->Option Res) (fr:Fr) (σ : S) (neg:Bool) (x:X) (y:X):Option (V × S):=match evK fr x,evK fr y with
  |some (.ptr l o),some (.ptr l' o')=>if l=l'/\o=o' then some (.bool (!neg),σ) else none
  |_,_=>none
noncomputable def qkP (C:Task->Option Res) (fr:Fr) (σ : S) (x:X):Option (V × S):=match evK fr x with
  |some (.dat (.lit (.slice none 0 0)))=>some (.dat (.lit (.pointer none)),σ)
  |some (.own l n sz)=>if 0<n/\sz=1 then some (.eptr l n 0,σ) else none
  |_=>none
noncomputable def qhK (C:Task->Option Res) (fr:Fr) (σ : S) (ts:List Nat) (x:X) (n:X):Option (V × S):=qjH <| match evK fr x,evK fr n with
  |some (.dat (.lit (.pointer none))),some (.dat (.lit (.int .i64 k)))=>if k=0 then some (.str ⟨#[]⟩,σ) else none
  |some (.eptr l m o),some (.dat (.lit (.int .i64 k)))=>match qkq σ l with
   |some (.vecT t cs)=>if ts.contains t=true/\cs.length=m/\k=m/\0<m/\o=0/\m<=2 ^ 40 then (match qd9 cs with
    |some bs=>some (.str ⟨bs.toArray⟩,σ.set l .dead)
    |none=>none) else none
   |_=>none
  |_,_=>none
noncomputable def qhL (C:Task->Option Res) (fr:Fr) (σ : S) (x:X):Option (V × S):=qjH <| match evK fr x with
  |some v=>match qpL σ v with
   |some u=>some (u,σ)
   |none=>none
  |none=>none
noncomputable def qeH (C:Task->Option Res) (fr:Fr) (σ : S) (len:Nat) (sz:Nat) (x:X) (lo:Option X) (hi:Option X):Option (V × S):=match evK fr x,qci fr lo,qci fr hi with
  |some v,some l,some h=>match qh2 len sz l h v with
   |some u=>some (u,σ)
   |none=>none
  |_,_,_=>none
noncomputable def qhM (C:Task->Option Res) (fr:Fr) (σ : S) (s:X) (c:X):Option (V × S):=match evK fr s,evK fr c with
  |some (.dat (.lit (.string s))),some (.dat (.lit (.int .u8 n)))=>some (.int (firstIdx s n.toNat.toUInt8),σ)
  |_,_=>none
noncomputable def qeI (C:Task->Option Res) (fr:Fr) (σ : S) (sz:Nat) (x:X) (lo:Option X) (hi:Option X) (mx:X):Option (V × S):=qjH <| match evK fr x,qci fr lo,qci fr hi,evK fr mx with
  |some v,some l,some (some h),some m=>match qjZ σ sz l h m v with
   |some u=>some (u,σ)
   |none=>none
  |_,_,_,_=>none
noncomputable def qhN (C:Task->Option Res) (fr:Fr) (σ : S) (sz:Nat) (x:X) (y:X):Option (V × S):=match evK fr x,evK fr y with
  |some a,some b=>match qor σ b,V.len σ .sl a with
   |some (xs,m),some n=>if xs.length=m*sz/\b.isStr=false/\xs.all V.one=true then (match qrg σ (xs.take (min n.toNat m*sz)) a with
    |some σ'=>some (.int (min n.toNat m),σ')
    |none=>none) else none
   |_,_=>none
  |_,_=>none
noncomputable def qkQ (C:Task->Option Res) (fr:Fr) (σ : S) (z:List D) (x:X):Option (V × S):=match evK fr x with
  |some a=>match V.len σ .sl a with
   |some n=>match qrg σ ((qbU n.toNat z).map .dat) a with
    |some σ'=>some (.tup [],σ')
    |none=>none
   |none=>none
  |none=>none
noncomputable def qeJ (C:Task->Option Res) (fr:Fr) (σ : S) (x:X):Option (V × S):=qjH <| match evK fr x with
  |some (.dat (.lit (.int _ _)))=>some (.mp σ.length,σ ++ [.map []])
  |_=>none
noncomputable def qhO (C:Task->Option Res) (fr:Fr) (σ : S) (x:X):Option (V × S):=match evK fr x with
  |some (.dat (.lit (.slice none 0 0)))=>some (.int 0,σ)
  |_=>none
noncomputable def qdL (C:Task->Option Res) (fr:Fr) (σ : S) (z:List D) (b:Nat) (s:X) (n:X):Option (V × S):=qjH <| match evK fr s,evK fr n with
  |some (.dat (.lit (.slice none 0 0))),some (.dat (.lit (.int _ m)))=>
   if 0<m/\m<=2 ^ 40/\qaA m.toNat b then some (.own σ.length m.toNat z.length,σ ++ [.vec ((qbU m.toNat z).map .dat)]) else none
  |_,_=>none
noncomputable def qeK (C:Task->Option Res) (fr:Fr) (σ : S) (kd:KD) (m:X) (k:X):Option (V × S):=match evK fr m,evK fr k with
  |some (.mp l),some (.dat (.lit key))=>match qkq σ l with
   |some (.map es)=>if qos kd key then (match qtR kd key es with
    |some es'=>some (.tup [],σ.set l (.map es'))
    |none=>none) else none
   |_=>none
  |_,_=>none
noncomputable def qeL (C:Task->Option Res) (fr:Fr) (σ : S) (x:X):Option (V × S):=match evK fr x with
  |some (.mp l)=>match qkq σ l with
   |some (.map _)=>some (.ptr σ.length 0,σ ++ [.iter l])
   |_=>none
  |_=>none
noncomputable def qf0 (C:Task->Option Res) (fr:Fr) (σ : S) (x:X):Option (V × S):=match evK fr x with
  |some (.ptr l 0)=>match qkq σ l with
   |some (.iter m)=>match qkq σ m with
    |some (.map [])=>some (.tup [.bool false],σ)
    |_=>none
   |_=>none
  |_=>none
noncomputable def qkR(C:Task->Option Res)(fr:Fr)(σ : S):Option (V × S):=none
noncomputable def qhP (C:Task->Option Res) (fr:Fr) (σ : S) (k:Nat):Option (V × S):=match qtk k fr with
  |some (.ptr l 0)=>match qkq σ l with
   |some (.cells _)=>some (.ptr l 0,σ)
   |_=>none
  |some (.mp l)=>match qkq σ l with
   |some (.map _)=>some (.mp l,σ)
   |_=>none
  |_=>none
noncomputable def qiB(C:Task->Option Res)(fr:Fr)(σ : S)(op:O):Option (V × S):=O.rec (motive:=fun _=>(Task->Option Res)->Fr->S->Option (V × S))
 (fun a0 C fr σ => qkF C fr σ a0)
 (fun a0 a1 a2 C fr σ => qhC C fr σ a0 a1 a2)
 (fun a0 C fr σ => qfO C fr σ a0)
 (fun a0 C fr σ => qkG C fr σ a0)
 (fun a0 a1 C fr σ => qfP C fr σ a0 a1)
 (fun a0 a1 a2 C fr σ => qew C fr σ a0 a1 a2)
 (fun a0 a1 a2 a3 C fr σ => qdG C fr σ a0 a1 a2 a3)
 (fun a0 a1 a2 C fr σ => qhD C fr σ a0 a1 a2)
 (fun a0 a1 a2 C fr σ => qfQ C fr σ a0 a1 a2)
 (fun a0 C fr σ => qex C fr σ a0)
 (fun a0 a1 a2 C fr σ => qkH C fr σ a0 a1 a2)
 (fun a0 a1 a2 C fr σ => qkI C fr σ a0 a1 a2)
 (fun a0 a1 a2 a3 C fr σ => qkJ C fr σ a0 a1 a2 a3)
 (fun a0 a1 a2 C fr σ => qfR C fr σ a0 a1 a2)
 (fun a0 a1 C fr σ => qey C fr σ a0 a1)
 (fun a0 a1 C fr σ => qhE C fr σ a0 a1)
 (fun a0 a1 C fr σ => qez C fr σ a0 a1)
 (fun a0 C fr σ => qfS C fr σ a0)
 (fun a0 a1 C fr σ => qpp C fr σ a0 a1)
 (fun a0 a1 C fr σ => qhF C fr σ a0 a1)
 (fun a0 a1 C fr σ => qcD C fr σ a0 a1)
 (fun a0 a1 a2 a3 C fr σ => qfT C fr σ a0 a1 a2 a3)
 (fun a0 a1 a2 C fr σ => qcE C fr σ a0 a1 a2)
 (fun a0 a1 a2 a3 C fr σ => qce C fr σ a0 a1 a2 a3)
 (fun a0 a1 a2 a3 a4 C fr σ => qeA C fr σ a0 a1 a2 a3 a4)
 (fun a0 a1 C fr σ => qeB C fr σ a0 a1)
 (fun a0 a1 a2 a3 C fr σ => qfU C fr σ a0 a1 a2 a3)
 (fun a0 a1 a2 C fr σ => qeC C fr σ a0 a1 a2)
 (fun a0 a1 C fr σ => qkK C fr σ a0 a1)
 (fun a0 C fr σ => qkL C fr σ a0)
 (fun a0 C fr σ => qkM C fr σ a0)
 (fun a0 a1 a2 a3 C fr σ => qeD C fr σ a0 a1 a2 a3)
 (fun a0 a1 a2 a3 C fr σ => qdI C fr σ a0 a1 a2 a3)
 (fun a0 a1 a2 a3 C fr σ => qkN C fr σ a0 a1 a2 a3)
 (fun C fr σ => qfV C fr σ)
 (fun a0 a1 a2 a3 a4 C fr σ => qdH C fr σ a0 a1 a2 a3 a4)
 (fun a0 a1 a2 a3 C fr σ => qeE C fr σ a0 a1 a2 a3)
 (fun a0 a1 a2 a3 a4 C fr σ => qeF C fr σ a0 a1 a2 a3 a4)
 (fun a0 a1 a2 C fr σ => qhG C fr σ a0 a1 a2)
 (fun a0 a1 C fr σ => qdJ C fr σ a0 a1)
 (fun a0 a1 C fr σ => qhH C fr σ a0 a1)
 (fun a0 a1 C fr σ => qfW C fr σ a0 a1)
 (fun a0 a1 a2 C fr σ => qeG C fr σ a0 a1 a2)
 (fun a0 a1 C fr σ => qfX C fr σ a0 a1)
 (fun a0 C fr σ => qfY C fr σ a0)
 (fun C fr σ => qfZ C fr σ)
 (fun a0 a1 C fr σ => qhI C fr σ a0 a1)
 (fun a0 a1 a2 a3 a4 C fr σ => qdK C fr σ a0 a1 a2 a3 a4)
 (fun a0 C fr σ => qpq C fr σ a0)
 (fun a0 a1 C fr σ => qhJ C fr σ a0 a1)
 (fun a0 a1 a2 C fr σ => qkO C fr σ a0 a1 a2)
 (fun a0 C fr σ => qkP C fr σ a0)
 (fun a0 a1 a2 C fr σ => qhK C fr σ a0 a1 a2)
 (fun a0 C fr σ => qhL C fr σ a0)
 (fun a0 a1 a2 a3 a4 C fr σ => qeH C fr σ a0 a1 a2 a3 a4)
 (fun a0 a1 a2 a3 a4 C fr σ => qeI C fr σ a0 a1 a2 a3 a4)
 (fun a0 a1 a2 C fr σ => qhN C fr σ a0 a1 a2)
 (fun a0 a1 C fr σ => qkQ C fr σ a0 a1)
 (fun a0 C fr σ => qeJ C fr σ a0)
 (fun a0 C fr σ => qhO C fr σ a0)
 (fun a0 a1 a2 a3 C fr σ => qdL C fr σ a0 a1 a2 a3)
 (fun a0 a1 a2 C fr σ => qeK C fr σ a0 a1 a2)
 (fun a0 C fr σ => qeL C fr σ a0)
 (fun a0 C fr σ => qf0 C fr σ a0)
 (fun C fr σ => qkR C fr σ)
 (fun a0 a1 C fr σ => qhM C fr σ a0 a1)
 (fun a0 C fr σ => qhP C fr σ a0)
 op C fr σ
theorem qpr(C:Task->Option Res)(fr:Fr)(σ : S)(x:X):qkF C fr σ x=qar C fr σ (.mov x):=by
 first
  |rfl
  | (simp only[qkF,qar,qab,qaa,qac,qal,qaq,qag,qaf,qae,qak,qah,qaj]; done)
  | (simp only[qkF,qar,qab,qaa,qac,qal,qaq,qag,qaf,qae,qak,qah,qaj]; rfl)
  | (unfold qkF; simp only[qab,qaa,qac,qal,qaq,qag,qaf,qae,qak,qah,qaj]; rfl)
theorem qn7(C:Task->Option Res)(fr:Fr)(σ : S)(c:X)(a:X)(b:X):qhC C fr σ c a b=qar C fr σ (.pick c a b):=by
 first
  |rfl
  | (simp only[qhC,qar,qab,qaa,qac,qal,qaq,qag,qaf,qae,qak,qah,qaj]; done)
  | (simp only[qhC,qar,qab,qaa,qac,qal,qaq,qag,qaf,qae,qak,qah,qaj]; rfl)
  | (unfold qhC; simp only[qab,qaa,qac,qal,qaq,qag,qaf,qae,qak,qah,qaj]; rfl)
theorem qmd(C:Task->Option Res)(fr:Fr)(σ : S)(zero:List D):qfO C fr σ zero=qar C fr σ (.alloc zero):=by
 first
  |rfl
  | (simp only[qfO,qar,qab,qaa,qac,qal,qaq,qag,qaf,qae,qak,qah,qaj]; done)
  | (simp only[qfO,qar,qab,qaa,qac,qal,qaq,qag,qaf,qae,qak,qah,qaj]; rfl)
  | (unfold qfO; simp only[qab,qaa,qac,qal,qaq,qag,qaf,qae,qak,qah,qaj]; rfl)
theorem qps(C:Task->Option Res)(fr:Fr)(σ : S)(x:X):qkG C fr σ x=qar C fr σ (.box x):=by
 first
  |rfl
  | (simp only[qkG,qar,qab,qaa,qac,qal,qaq,qag,qaf,qae,qak,qah,qaj]; done)
  | (simp only[qkG,qar,qab,qaa,qac,qal,qaq,qag,qaf,qae,qak,qah,qaj]; rfl)
  | (unfold qkG; simp only[qab,qaa,qac,qal,qaq,qag,qaf,qae,qak,qah,qaj]; rfl)
theorem qme(C:Task->Option Res)(fr:Fr)(σ : S)(zero:List D)(parts:List (Nat × Nat × X)):qfP C fr σ zero parts=qar C fr σ (.build zero parts):=by
 first
  |rfl
  | (simp only[qfP,qar,qab,qaa,qac,qal,qaq,qag,qaf,qae,qak,qah,qaj]; done)
  | (simp only[qfP,qar,qab,qaa,qac,qal,qaq,qag,qaf,qae,qak,qah,qaj]; rfl)
  | (unfold qfP; simp only[qab,qaa,qac,qal,qaq,qag,qaf,qae,qak,qah,qaj]; rfl)
theorem qkS(C:Task->Option Res)(fr:Fr)(σ : S)(n:Nat)(zero:List D)(parts:List (Nat × Nat × X)):qew C fr σ n zero parts=qar C fr σ (.bslice n zero parts):=by
 first
  |rfl
  | (simp only[qew,qar,qab,qaa,qac,qal,qaq,qag,qaf,qae,qak,qah,qaj]; done)
  | (simp only[qew,qar,qab,qaa,qac,qal,qaq,qag,qaf,qae,qak,qah,qaj]; rfl)
  | (unfold qew; simp only[qab,qaa,qac,qal,qaq,qag,qaf,qae,qak,qah,qaj]; rfl)
theorem qjP(C:Task->Option Res)(fr:Fr)(σ : S)(n:Nat)(sz:Nat)(zero:List D)(parts:List (Nat × Nat × X)):qdG C fr σ n sz zero parts=qar C fr σ (.bsliceO n sz zero parts):=by
 first
  |rfl
  | (simp only[qdG,qar,qab,qaa,qac,qal,qaq,qag,qaf,qae,qak,qah,qaj]; done)
  | (simp only[qdG,qar,qab,qaa,qac,qal,qaq,qag,qaf,qae,qak,qah,qaj]; rfl)
  | (unfold qdG; simp only[qab,qaa,qac,qal,qaq,qag,qaf,qae,qak,qah,qaj]; rfl)
theorem qn8(C:Task->Option Res)(fr:Fr)(σ : S)(agg:Bool)(n:Nat)(a:X):qhD C fr σ agg n a=qar C fr σ (.load agg n a):=by
 first
  |rfl
  | (simp only[qhD,qar,qab,qaa,qac,qal,qaq,qag,qaf,qae,qak,qah,qaj]; done)
  | (simp only[qhD,qar,qab,qaa,qac,qal,qaq,qag,qaf,qae,qak,qah,qaj]; rfl)
  | (unfold qhD; simp only[qab,qaa,qac,qal,qaq,qag,qaf,qae,qak,qah,qaj]; rfl)
theorem qmf(C:Task->Option Res)(fr:Fr)(σ : S)(n:Nat)(a:X)(x:X):qfQ C fr σ n a x=qar C fr σ (.store n a x):=by
 first
  |rfl
  | (simp only[qfQ,qar,qab,qaa,qac,qal,qaq,qag,qaf,qae,qak,qah,qaj]; done)
  | (simp only[qfQ,qar,qab,qaa,qac,qal,qaq,qag,qaf,qae,qak,qah,qaj]; rfl)
  | (unfold qfQ; simp only[qab,qaa,qac,qal,qaq,qag,qaf,qae,qak,qah,qaj]; rfl)
theorem qkT(C:Task->Option Res)(fr:Fr)(σ : S)(x:X):qex C fr σ x=qar C fr σ (.nilchk x):=by
 first
  |rfl
  | (simp only[qex,qar,qab,qaa,qac,qal,qaq,qag,qaf,qae,qak,qah,qaj]; done)
  | (simp only[qex,qar,qab,qaa,qac,qal,qaq,qag,qaf,qae,qak,qah,qaj]; rfl)
  | (unfold qex; simp only[qab,qaa,qac,qal,qaq,qag,qaf,qae,qak,qah,qaj]; rfl)
theorem qpt(C:Task->Option Res)(fr:Fr)(σ : S)(op:BinOp)(x:X)(y:X):qkH C fr σ op x y=qar C fr σ (.bin op x y):=by
 first
  |rfl
  | (simp only[qkH,qar,qab,qaa,qac,qal,qaq,qag,qaf,qae,qak,qah,qaj]; done)
  | (simp only[qkH,qar,qab,qaa,qac,qal,qaq,qag,qaf,qae,qak,qah,qaj]; rfl)
  | (unfold qkH; simp only[qab,qaa,qac,qal,qaq,qag,qaf,qae,qak,qah,qaj]; rfl)
theorem qmg(C:Task->Option Res)(fr:Fr)(σ : S)(p:Bool)(neg:Bool)(x:X):qfR C fr σ p neg x=qar C fr σ (.isnil p neg x):=by
 first
  |rfl
  | (simp only[qfR,qar,qab,qaa,qac,qal,qaq,qag,qaf,qae,qak,qah,qaj]; done)
  | (simp only[qfR,qar,qab,qaa,qac,qal,qaq,qag,qaf,qae,qak,qah,qaj]; rfl)
  | (unfold qfR; simp only[qab,qaa,qac,qal,qaq,qag,qaf,qae,qak,qah,qaj]; rfl)
theorem qkU(C:Task->Option Res)(fr:Fr)(σ : S)(neg:Bool)(x:X):qey C fr σ neg x=qar C fr σ (.isnils neg x):=by
 first
  |rfl
  | (simp only[qey,qar,qab,qaa,qac,qal,qaq,qag,qaf,qae,qak,qah,qaj]; done)
  | (simp only[qey,qar,qab,qaa,qac,qal,qaq,qag,qaf,qae,qak,qah,qaj]; rfl)
  | (unfold qey; simp only[qab,qaa,qac,qal,qaq,qag,qaf,qae,qak,qah,qaj]; rfl)
theorem qn9(C:Task->Option Res)(fr:Fr)(σ : S)(t:Nat)(x:X):qhE C fr σ t x=qar C fr σ (.mkif t x):=by
 first
  |rfl
  | (simp only[qhE,qar,qab,qaa,qac,qal,qaq,qag,qaf,qae,qak,qah,qaj]; done)
  | (simp only[qhE,qar,qab,qaa,qac,qal,qaq,qag,qaf,qae,qak,qah,qaj]; rfl)
  | (unfold qhE; simp only[qab,qaa,qac,qal,qaq,qag,qaf,qae,qak,qah,qaj]; rfl)
theorem qkV(C:Task->Option Res)(fr:Fr)(σ : S)(tbl:List (Nat × Nat))(x:X):qez C fr σ tbl x=qar C fr σ (.mkmeth tbl x):=by
 first
  |rfl
  | (simp only[qez,qar,qab,qaa,qac,qal,qaq,qag,qaf,qae,qak,qah,qaj]; done)
  | (simp only[qez,qar,qab,qaa,qac,qal,qaq,qag,qaf,qae,qak,qah,qaj]; rfl)
  | (unfold qez; simp only[qab,qaa,qac,qal,qaq,qag,qaf,qae,qak,qah,qaj]; rfl)
theorem qmh(C:Task->Option Res)(fr:Fr)(σ : S)(x:X):qfS C fr σ x=qar C fr σ (.bytes x):=by
 first
  |rfl
  | (simp only[qfS,qar,qab,qaa,qac,qal,qaq,qag,qaf,qae,qak,qah,qaj]; done)
  | (simp only[qfS,qar,qab,qaa,qac,qal,qaq,qag,qaf,qae,qak,qah,qaj]; rfl)
  | (unfold qfS; simp only[qab,qaa,qac,qal,qaq,qag,qaf,qae,qak,qah,qaj]; rfl)
theorem qjQ(C:Task->Option Res)(fr:Fr)(σ : S)(own:Bool)(z:List D)(b:Nat)(x:X)(y:X):qdH C fr σ own z b x y=qar C fr σ (.mkslice own z b x y):=by
 first
  |rfl
  | (simp only[qdH,qar,qab,qaa,qac,qal,qaq,qag,qaf,qae,qak,qah,qaj]; done)
  | (simp only[qdH,qar,qab,qaa,qac,qal,qaq,qag,qaf,qae,qak,qah,qaj]; rfl)
  | (unfold qdH; simp only[qab,qaa,qac,qal,qaq,qag,qaf,qae,qak,qah,qaj]; rfl)
theorem qpu(C:Task->Option Res)(fr:Fr)(σ : S)(neg:Bool)(x:X)(y:X):qkI C fr σ neg x y=qar C fr σ (.eqb neg x y):=by
 first
  |rfl
  | (simp only[qkI,qar,qab,qaa,qac,qal,qaq,qag,qaf,qae,qak,qah,qaj]; done)
  | (simp only[qkI,qar,qab,qaa,qac,qal,qaq,qag,qaf,qae,qak,qah,qaj]; rfl)
  | (unfold qkI; simp only[qab,qaa,qac,qal,qaq,qag,qaf,qae,qak,qah,qaj]; rfl)
theorem qpv(C:Task->Option Res)(fr:Fr)(σ : S)(neg:Bool)(kds:List KD)(x:X)(y:X):qkJ C fr σ neg kds x y=qar C fr σ (.eqa neg kds x y):=by
 first
  |rfl
  | (simp only[qkJ,qar,qab,qaa,qac,qal,qaq,qag,qaf,qae,qak,qah,qaj]; done)
  | (simp only[qkJ,qar,qab,qaa,qac,qal,qaq,qag,qaf,qae,qak,qah,qaj]; rfl)
  | (unfold qkJ; simp only[qab,qaa,qac,qal,qaq,qag,qaf,qae,qak,qah,qaj]; rfl)
theorem qry(C:Task->Option Res)(fr:Fr)(σ : S)(op:UnOp)(x:X):qpp C fr σ op x=qar C fr σ (.un op x):=by
 first
  |rfl
  | (simp only[qpp,qar,qab,qaa,qac,qal,qaq,qag,qaf,qae,qak,qah,qaj]; done)
  | (simp only[qpp,qar,qab,qaa,qac,qal,qaq,qag,qaf,qae,qak,qah,qaj]; rfl)
  | (unfold qpp; simp only[qab,qaa,qac,qal,qaq,qag,qaf,qae,qak,qah,qaj]; rfl)
theorem qoa(C:Task->Option Res)(fr:Fr)(σ : S)(k:CK)(x:X):qhF C fr σ k x=qar C fr σ (.conv k x):=by
 first
  |rfl
  | (simp only[qhF,qar,qab,qaa,qac,qal,qaq,qag,qaf,qae,qak,qah,qaj]; done)
  | (simp only[qhF,qar,qab,qaa,qac,qal,qaq,qag,qaf,qae,qak,qah,qaj]; rfl)
  | (unfold qhF; simp only[qab,qaa,qac,qal,qaq,qag,qaf,qae,qak,qah,qaj]; rfl)
theorem qhQ(C:Task->Option Res)(fr:Fr)(σ : S)(off:Nat)(x:X):qcD C fr σ off x=qar C fr σ (.fieldAddr off x):=by
 first
  |rfl
  | (simp only[qcD,qar,qab,qaa,qac,qal,qaq,qag,qaf,qae,qak,qah,qaj]; done)
  | (simp only[qcD,qar,qab,qaa,qac,qal,qaq,qag,qaf,qae,qak,qah,qaj]; rfl)
  | (unfold qcD; simp only[qab,qaa,qac,qal,qaq,qag,qaf,qae,qak,qah,qaj]; rfl)
theorem qmi(C:Task->Option Res)(fr:Fr)(σ : S)(agg:Bool)(off:Nat)(n:Nat)(x:X):qfT C fr σ agg off n x=qar C fr σ (.field agg off n x):=by
 first
  |rfl
  | (simp only[qfT,qar,qab,qaa,qac,qal,qaq,qag,qaf,qae,qak,qah,qaj]; done)
  | (simp only[qfT,qar,qab,qaa,qac,qal,qaq,qag,qaf,qae,qak,qah,qaj]; rfl)
  | (unfold qfT; simp only[qab,qaa,qac,qal,qaq,qag,qaf,qae,qak,qah,qaj]; rfl)
theorem qhR(C:Task->Option Res)(fr:Fr)(σ : S)(sz:Nat)(x:X)(i:X):qcE C fr σ sz x i=qar C fr σ (.indexAddr sz x i):=by
 first
  |rfl
  | (simp only[qcE,qar,qab,qaa,qac,qal,qaq,qag,qaf,qae,qak,qah,qaj]; done)
  | (simp only[qcE,qar,qab,qaa,qac,qal,qaq,qag,qaf,qae,qak,qah,qaj]; rfl)
  | (unfold qcE; simp only[qab,qaa,qac,qal,qaq,qag,qaf,qae,qak,qah,qaj]; rfl)
theorem qg6(C:Task->Option Res)(fr:Fr)(σ : S)(len:Nat)(sz:Nat)(x:X)(i:X):qce C fr σ len sz x i=qar C fr σ (.indexAddrA len sz x i):=by
 first
  |rfl
  | (simp only[qce,qar,qab,qaa,qac,qal,qaq,qag,qaf,qae,qak,qah,qaj]; done)
  | (simp only[qce,qar,qab,qaa,qac,qal,qaq,qag,qaf,qae,qak,qah,qaj]; rfl)
  | (unfold qce; simp only[qab,qaa,qac,qal,qaq,qag,qaf,qae,qak,qah,qaj]; rfl)
theorem qkW(C:Task->Option Res)(fr:Fr)(σ : S)(agg:Bool)(len:Nat)(sz:Nat)(x:X)(i:X):qeA C fr σ agg len sz x i=qar C fr σ (.indexA agg len sz x i):=by
 first
  |rfl
  | (simp only[qeA,qar,qab,qaa,qac,qal,qaq,qag,qaf,qae,qak,qah,qaj]; done)
  | (simp only[qeA,qar,qab,qaa,qac,qal,qaq,qag,qaf,qae,qak,qah,qaj]; rfl)
  | (unfold qeA; simp only[qab,qaa,qac,qal,qaq,qag,qaf,qae,qak,qah,qaj]; rfl)
theorem qkX(C:Task->Option Res)(fr:Fr)(σ : S)(x:X)(i:X):qeB C fr σ x i=qar C fr σ (.indexS x i):=by
 first
  |rfl
  | (simp only[qeB,qar,qab,qaa,qac,qal,qaq,qag,qaf,qae,qak,qah,qaj]; done)
  | (simp only[qeB,qar,qab,qaa,qac,qal,qaq,qag,qaf,qae,qak,qah,qaj]; rfl)
  | (unfold qeB; simp only[qab,qaa,qac,qal,qaq,qag,qaf,qae,qak,qah,qaj]; rfl)
theorem qmj(C:Task->Option Res)(fr:Fr)(σ : S)(sz:Nat)(x:X)(lo:Option X)(hi:Option X):qfU C fr σ sz x lo hi=qar C fr σ (.slice sz x lo hi):=by
 first
  |rfl
  | (simp only[qfU,qar,qab,qaa,qac,qal,qaq,qag,qaf,qae,qak,qah,qaj]; done)
  | (simp only[qfU,qar,qab,qaa,qac,qal,qaq,qag,qaf,qae,qak,qah,qaj]; rfl)
  | (unfold qfU; simp only[qab,qaa,qac,qal,qaq,qag,qaf,qae,qak,qah,qaj]; rfl)
theorem qkY(C:Task->Option Res)(fr:Fr)(σ : S)(x:X)(lo:Option X)(hi:Option X):qeC C fr σ x lo hi=qar C fr σ (.sliceS x lo hi):=by
 first
  |rfl
  | (simp only[qeC,qar,qab,qaa,qac,qal,qaq,qag,qaf,qae,qak,qah,qaj]; done)
  | (simp only[qeC,qar,qab,qaa,qac,qal,qaq,qag,qaf,qae,qak,qah,qaj]; rfl)
  | (unfold qeC; simp only[qab,qaa,qac,qal,qaq,qag,qaf,qae,qak,qah,qaj]; rfl)
theorem qpw(C:Task->Option Res)(fr:Fr)(σ : S)(k:LK)(x:X):qkK C fr σ k x=qar C fr σ (.len k x):=by
 first
  |rfl
  | (simp only[qkK,qar,qab,qaa,qac,qal,qaq,qag,qaf,qae,qak,qah,qaj]; done)
  | (simp only[qkK,qar,qab,qaa,qac,qal,qaq,qag,qaf,qae,qak,qah,qaj]; rfl)
  | (unfold qkK; simp only[qab,qaa,qac,qal,qaq,qag,qaf,qae,qak,qah,qaj]; rfl)
theorem qpx(C:Task->Option Res)(fr:Fr)(σ : S)(xs:List X):qkL C fr σ xs=qar C fr σ (.min xs):=by
 first
  |rfl
  | (simp only[qkL,qar,qab,qaa,qac,qal,qaq,qag,qaf,qae,qak,qah,qaj]; done)
  | (simp only[qkL,qar,qab,qaa,qac,qal,qaq,qag,qaf,qae,qak,qah,qaj]; rfl)
  | (unfold qkL; simp only[qab,qaa,qac,qal,qaq,qag,qaf,qae,qak,qah,qaj]; rfl)
theorem qpy(C:Task->Option Res)(fr:Fr)(σ : S)(xs:List X):qkM C fr σ xs=qar C fr σ (.max xs):=by
 first
  |rfl
  | (simp only[qkM,qar,qab,qaa,qac,qal,qaq,qag,qaf,qae,qak,qah,qaj]; done)
  | (simp only[qkM,qar,qab,qaa,qac,qal,qaq,qag,qaf,qae,qak,qah,qaj]; rfl)
  | (unfold qkM; simp only[qab,qaa,qac,qal,qaq,qag,qaf,qae,qak,qah,qaj]; rfl)
theorem qkZ(C:Task->Option Res)(fr:Fr)(σ : S)(sz:Nat)(bytes:Nat)(s:X)(x:X):qeD C fr σ sz bytes s x=qar C fr σ (.append sz bytes s x):=by
 first
  |rfl
  | (simp only[qeD,qar,qab,qaa,qac,qal,qaq,qag,qaf,qae,qak,qah,qaj]; done)
  | (simp only[qeD,qar,qab,qaa,qac,qal,qaq,qag,qaf,qae,qak,qah,qaj]; rfl)
  | (unfold qeD; simp only[qab,qaa,qac,qal,qaq,qag,qaf,qae,qak,qah,qaj]; rfl)
theorem qjR(C:Task->Option Res)(fr:Fr)(σ : S)(sz:Nat)(bytes:Nat)(s:X)(x:X):qdI C fr σ sz bytes s x=qar C fr σ (.appendO sz bytes s x):=by
 first
  |rfl
  | (simp only[qdI,qar,qab,qaa,qac,qal,qaq,qag,qaf,qae,qak,qah,qaj]; done)
  | (simp only[qdI,qar,qab,qaa,qac,qal,qaq,qag,qaf,qae,qak,qah,qaj]; rfl)
  | (unfold qdI; simp only[qab,qaa,qac,qal,qaq,qag,qaf,qae,qak,qah,qaj]; rfl)
theorem qpz(C:Task->Option Res)(fr:Fr)(σ : S)(sz:Nat)(x:X)(lo:Option X)(hi:Option X):qkN C fr σ sz x lo hi=qar C fr σ (.cut sz x lo hi):=by
 first
  |rfl
  | (simp only[qkN,qar,qab,qaa,qac,qal,qaq,qag,qaf,qae,qak,qah,qaj]; done)
  | (simp only[qkN,qar,qab,qaa,qac,qal,qaq,qag,qaf,qae,qak,qah,qaj]; rfl)
  | (unfold qkN; simp only[qab,qaa,qac,qal,qaq,qag,qaf,qae,qak,qah,qaj]; rfl)
theorem qmk(C:Task->Option Res)(fr:Fr)(σ : S):qfV C fr σ = qar C fr σ (.mkmap):=by
 first
  |rfl
  | (simp only[qfV,qar,qab,qaa,qac,qal,qaq,qag,qaf,qae,qak,qah,qaj]; done)
  | (simp only[qfV,qar,qab,qaa,qac,qal,qaq,qag,qaf,qae,qak,qah,qaj]; rfl)
  | (unfold qfV; simp only[qab,qaa,qac,qal,qaq,qag,qaf,qae,qak,qah,qaj]; rfl)
theorem qk0(C:Task->Option Res)(fr:Fr)(σ : S)(kd:KD)(m:X)(k:X)(v:X):qeE C fr σ kd m k v=qar C fr σ (.mapset kd m k v):=by
 first
  |rfl
  | (simp only[qeE,qar,qab,qaa,qac,qal,qaq,qag,qaf,qae,qak,qah,qaj]; done)
  | (simp only[qeE,qar,qab,qaa,qac,qal,qaq,qag,qaf,qae,qak,qah,qaj]; rfl)
  | (unfold qeE; simp only[qab,qaa,qac,qal,qaq,qag,qaf,qae,qak,qah,qaj]; rfl)
theorem qk1(C:Task->Option Res)(fr:Fr)(σ : S)(kd:KD)(zero:D)(m:X)(k:X)(ok:Bool):qeF C fr σ kd zero m k ok=qar C fr σ (.lookup kd zero m k ok):=by
 first
  |rfl
  | (simp only[qeF,qar,qab,qaa,qac,qal,qaq,qag,qaf,qae,qak,qah,qaj]; done)
  | (simp only[qeF,qar,qab,qaa,qac,qal,qaq,qag,qaf,qae,qak,qah,qaj]; rfl)
  | (unfold qeF; simp only[qab,qaa,qac,qal,qaq,qag,qaf,qae,qak,qah,qaj]; rfl)
theorem qob(C:Task->Option Res)(fr:Fr)(σ : S)(f:Nat)(a:List X)(b:List X):qhG C fr σ f a b=qar C fr σ (.mkfn f a b):=by
 first
  |rfl
  | (simp only[qhG,qar,qab,qaa,qac,qal,qaq,qag,qaf,qae,qak,qah,qaj]; done)
  | (simp only[qhG,qar,qab,qaa,qac,qal,qaq,qag,qaf,qae,qak,qah,qaj]; rfl)
  | (unfold qhG; simp only[qab,qaa,qac,qal,qaq,qag,qaf,qae,qak,qah,qaj]; rfl)
theorem qjS(C:Task->Option Res)(fr:Fr)(σ : S)(x:X)(i:Nat):qdJ C fr σ x i=qar C fr σ (.extract x i):=by
 first
  |rfl
  | (simp only[qdJ,qar,qab,qaa,qac,qal,qaq,qag,qaf,qae,qak,qah,qaj]; done)
  | (simp only[qdJ,qar,qab,qaa,qac,qal,qaq,qag,qaf,qae,qak,qah,qaj]; rfl)
  | (unfold qdJ; simp only[qab,qaa,qac,qal,qaq,qag,qaf,qae,qak,qah,qaj]; rfl)
theorem qoc(C:Task->Option Res)(fr:Fr)(σ : S)(f:Nat)(xs:List X):qhH C fr σ f xs=qar C fr σ (.call f xs):=by
 first
  |rfl
  | (simp only[qhH,qar,qab,qaa,qac,qal,qaq,qag,qaf,qae,qak,qah,qaj]; done)
  | (simp only[qhH,qar,qab,qaa,qac,qal,qaq,qag,qaf,qae,qak,qah,qaj]; rfl)
  | (unfold qhH; simp only[qab,qaa,qac,qal,qaq,qag,qaf,qae,qak,qah,qaj]; rfl)
theorem qk2(C:Task->Option Res)(fr:Fr)(σ : S)(tbl:List (Nat × Nat))(x:X)(xs:List X):qeG C fr σ tbl x xs=qar C fr σ (.invoke tbl x xs):=by
 first
  |rfl
  | (simp only[qeG,qar,qab,qaa,qac,qal,qaq,qag,qaf,qae,qak,qah,qaj]; done)
  | (simp only[qeG,qar,qab,qaa,qac,qal,qaq,qag,qaf,qae,qak,qah,qaj]; rfl)
  | (unfold qeG; simp only[qab,qaa,qac,qal,qaq,qag,qaf,qae,qak,qah,qaj]; rfl)
theorem qml(C:Task->Option Res)(fr:Fr)(σ : S)(f:X)(xs:List X):qfW C fr σ f xs=qar C fr σ (.callv f xs):=by
 first
  |rfl
  | (simp only[qfW,qar,qab,qaa,qac,qal,qaq,qag,qaf,qae,qak,qah,qaj]; done)
  | (simp only[qfW,qar,qab,qaa,qac,qal,qaq,qag,qaf,qae,qak,qah,qaj]; rfl)
  | (unfold qfW; simp only[qab,qaa,qac,qal,qaq,qag,qaf,qae,qak,qah,qaj]; rfl)
theorem qmm(C:Task->Option Res)(fr:Fr)(σ : S)(f:X)(xs:List X):qfX C fr σ f xs=qar C fr σ (.defer f xs):=by
 first
  |rfl
  | (simp only[qfX,qar,qab,qaa,qac,qal,qaq,qag,qaf,qae,qak,qah,qaj]; done)
  | (simp only[qfX,qar,qab,qaa,qac,qal,qaq,qag,qaf,qae,qak,qah,qaj]; rfl)
  | (unfold qfX; simp only[qab,qaa,qac,qal,qaq,qag,qaf,qae,qak,qah,qaj]; rfl)
theorem qmn(C:Task->Option Res)(fr:Fr)(σ : S)(_panic0:X):qfY C fr σ _panic0=qar C fr σ (.panic _panic0):=by
 first
  |rfl
  | (simp only[qfY,qar,qab,qaa,qac,qal,qaq,qag,qaf,qae,qak,qah,qaj]; done)
  | (simp only[qfY,qar,qab,qaa,qac,qal,qaq,qag,qaf,qae,qak,qah,qaj]; rfl)
  | (unfold qfY; simp only[qab,qaa,qac,qal,qaq,qag,qaf,qae,qak,qah,qaj]; rfl)
theorem qmo(C:Task->Option Res)(fr:Fr)(σ : S):qfZ C fr σ = qar C fr σ (.recov):=by
 first
  |rfl
  | (simp only[qfZ,qar,qab,qaa,qac,qal,qaq,qag,qaf,qae,qak,qah,qaj]; done)
  | (simp only[qfZ,qar,qab,qaa,qac,qal,qaq,qag,qaf,qae,qak,qah,qaj]; rfl)
  | (unfold qfZ; simp only[qab,qaa,qac,qal,qaq,qag,qaf,qae,qak,qah,qaj]; rfl)
theorem qod(C:Task->Option Res)(fr:Fr)(σ : S)(t:Nat)(x:X):qhI C fr σ t x=qar C fr σ (.boxT t x):=by
 first
  |rfl
  | (simp only[qhI,qar,qab,qaa,qac,qal,qaq,qag,qaf,qae,qak,qah,qaj]; done)
  | (simp only[qhI,qar,qab,qaa,qac,qal,qaq,qag,qaf,qae,qak,qah,qaj]; rfl)
  | (unfold qhI; simp only[qab,qaa,qac,qal,qaq,qag,qaf,qae,qak,qah,qaj]; rfl)
theorem qjT(C:Task->Option Res)(fr:Fr)(σ : S)(t:Nat)(sz:Nat)(bytes:Nat)(s:X)(x:X):qdK C fr σ t sz bytes s x=qar C fr σ (.appendT t sz bytes s x):=by
 first
  |rfl
  | (simp only[qdK,qar,qab,qaa,qac,qal,qaq,qag,qaf,qae,qak,qah,qaj]; done)
  | (simp only[qdK,qar,qab,qaa,qac,qal,qaq,qag,qaf,qae,qak,qah,qaj]; rfl)
  | (unfold qdK; simp only[qab,qaa,qac,qal,qaq,qag,qaf,qae,qak,qah,qaj]; rfl)
theorem qrz(C:Task->Option Res)(fr:Fr)(σ : S)(x:X):qpq C fr σ x=qar C fr σ (.up x):=by
 first
  |rfl
  | (simp only[qpq,qar,qab,qaa,qac,qal,qaq,qag,qaf,qae,qak,qah,qaj]; done)
  | (simp only[qpq,qar,qab,qaa,qac,qal,qaq,qag,qaf,qae,qak,qah,qaj]; rfl)
  | (unfold qpq; simp only[qab,qaa,qac,qal,qaq,qag,qaf,qae,qak,qah,qaj]; rfl)
theorem qoe(C:Task->Option Res)(fr:Fr)(σ : S)(ts:List (Nat × Nat))(x:X):qhJ C fr σ ts x=qar C fr σ (.down ts x):=by
 first
  |rfl
  | (simp only[qhJ,qar,qab,qaa,qac,qal,qaq,qag,qaf,qae,qak,qah,qaj]; done)
  | (simp only[qhJ,qar,qab,qaa,qac,qal,qaq,qag,qaf,qae,qak,qah,qaj]; rfl)
  | (unfold qhJ; simp only[qab,qaa,qac,qal,qaq,qag,qaf,qae,qak,qah,qaj]; rfl)
theorem qpA(C:Task->Option Res)(fr:Fr)(σ : S)(neg:Bool)(x:X)(y:X):qkO C fr σ neg x y=qar C fr σ (.peq neg x y):=by
 first
  |rfl
  | (simp only[qkO,qar,qab,qaa,qac,qal,qaq,qag,qaf,qae,qak,qah,qaj]; done)
  | (simp only[qkO,qar,qab,qaa,qac,qal,qaq,qag,qaf,qae,qak,qah,qaj]; rfl)
  | (unfold qkO; simp only[qab,qaa,qac,qal,qaq,qag,qaf,qae,qak,qah,qaj]; rfl)
theorem qpB(C:Task->Option Res)(fr:Fr)(σ : S)(x:X):qkP C fr σ x=qar C fr σ (.usd x):=by
 first
  |rfl
  | (simp only[qkP,qar,qab,qaa,qac,qal,qaq,qag,qaf,qae,qak,qah,qaj]; done)
  | (simp only[qkP,qar,qab,qaa,qac,qal,qaq,qag,qaf,qae,qak,qah,qaj]; rfl)
  | (unfold qkP; simp only[qab,qaa,qac,qal,qaq,qag,qaf,qae,qak,qah,qaj]; rfl)
theorem qof(C:Task->Option Res)(fr:Fr)(σ : S)(ts:List Nat)(x:X)(n:X):qhK C fr σ ts x n=qar C fr σ (.ustr ts x n):=by
 first
  |rfl
  | (simp only[qhK,qar,qab,qaa,qac,qal,qaq,qag,qaf,qae,qak,qah,qaj]; done)
  | (simp only[qhK,qar,qab,qaa,qac,qal,qaq,qag,qaf,qae,qak,qah,qaj]; rfl)
  | (unfold qhK; simp only[qab,qaa,qac,qal,qaq,qag,qaf,qae,qak,qah,qaj]; rfl)
theorem qog(C:Task->Option Res)(fr:Fr)(σ : S)(x:X):qhL C fr σ x=qar C fr σ (.bstr x):=by
 first
  |rfl
  | (simp only[qhL,qar,qab,qaa,qac,qal,qaq,qag,qaf,qae,qak,qah,qaj]; done)
  | (simp only[qhL,qar,qab,qaa,qac,qal,qaq,qag,qaf,qae,qak,qah,qaj]; rfl)
  | (unfold qhL; simp only[qab,qaa,qac,qal,qaq,qag,qaf,qae,qak,qah,qaj]; rfl)
theorem qk3(C:Task->Option Res)(fr:Fr)(σ : S)(len:Nat)(sz:Nat)(x:X)(lo:Option X)(hi:Option X):qeH C fr σ len sz x lo hi=qar C fr σ (.sliceA len sz x lo hi):=by
 first
  |rfl
  | (simp only[qeH,qar,qab,qaa,qac,qal,qaq,qag,qaf,qae,qak,qah,qaj]; done)
  | (simp only[qeH,qar,qab,qaa,qac,qal,qaq,qag,qaf,qae,qak,qah,qaj]; rfl)
  | (unfold qeH; simp only[qab,qaa,qac,qal,qaq,qag,qaf,qae,qak,qah,qaj]; rfl)
theorem qoh(C:Task->Option Res)(fr:Fr)(σ : S)(s:X)(c:X):qhM C fr σ s c=qar C fr σ (.idxb s c):=by
 first
  |rfl
  | (simp only[qhM,qar,qab,qaa,qac,qal,qaq,qag,qaf,qae,qak,qah,qaj]; done)
  | (simp only[qhM,qar,qab,qaa,qac,qal,qaq,qag,qaf,qae,qak,qah,qaj]; rfl)
  | (unfold qhM; simp only[qab,qaa,qac,qal,qaq,qag,qaf,qae,qak,qah,qaj]; rfl)
theorem qk4(C:Task->Option Res)(fr:Fr)(σ : S)(sz:Nat)(x:X)(lo:Option X)(hi:Option X)(mx:X):qeI C fr σ sz x lo hi mx=qar C fr σ (.slice3 sz x lo hi mx):=by
 first
  |rfl
  | (simp only[qeI,qar,qab,qaa,qac,qal,qaq,qag,qaf,qae,qak,qah,qaj]; done)
  | (simp only[qeI,qar,qab,qaa,qac,qal,qaq,qag,qaf,qae,qak,qah,qaj]; rfl)
  | (unfold qeI; simp only[qab,qaa,qac,qal,qaq,qag,qaf,qae,qak,qah,qaj]; rfl)
theorem qoi(C:Task->Option Res)(fr:Fr)(σ : S)(sz:Nat)(x:X)(y:X):qhN C fr σ sz x y=qar C fr σ (.copy sz x y):=by
 first
  |rfl
  | (simp only[qhN,qar,qab,qaa,qac,qal,qaq,qag,qaf,qae,qak,qah,qaj]; done)
  | (simp only[qhN,qar,qab,qaa,qac,qal,qaq,qag,qaf,qae,qak,qah,qaj]; rfl)
  | (unfold qhN; simp only[qab,qaa,qac,qal,qaq,qag,qaf,qae,qak,qah,qaj]; rfl)
theorem qpC(C:Task->Option Res)(fr:Fr)(σ : S)(z:List D)(x:X):qkQ C fr σ z x=qar C fr σ (.clr z x):=by
 first
  |rfl
  | (simp only[qkQ,qar,qab,qaa,qac,qal,qaq,qag,qaf,qae,qak,qah,qaj]; done)
  | (simp only[qkQ,qar,qab,qaa,qac,qal,qaq,qag,qaf,qae,qak,qah,qaj]; rfl)
  | (unfold qkQ; simp only[qab,qaa,qac,qal,qaq,qag,qaf,qae,qak,qah,qaj]; rfl)
theorem qk5(C:Task->Option Res)(fr:Fr)(σ : S)(x:X):qeJ C fr σ x=qar C fr σ (.mkmapH x):=by
 first
  |rfl
  | (simp only[qeJ,qar,qab,qaa,qac,qal,qaq,qag,qaf,qae,qak,qah,qaj]; done)
  | (simp only[qeJ,qar,qab,qaa,qac,qal,qaq,qag,qaf,qae,qak,qah,qaj]; rfl)
  | (unfold qeJ; simp only[qab,qaa,qac,qal,qaq,qag,qaf,qae,qak,qah,qaj]; rfl)
theorem qoj(C:Task->Option Res)(fr:Fr)(σ : S)(x:X):qhO C fr σ x=qar C fr σ (.cap0 x):=by
 first
  |rfl
  | (simp only[qhO,qar,qab,qaa,qac,qal,qaq,qag,qaf,qae,qak,qah,qaj]; done)
  | (simp only[qhO,qar,qab,qaa,qac,qal,qaq,qag,qaf,qae,qak,qah,qaj]; rfl)
  | (unfold qhO; simp only[qab,qaa,qac,qal,qaq,qag,qaf,qae,qak,qah,qaj]; rfl)
theorem qjU(C:Task->Option Res)(fr:Fr)(σ : S)(z:List D)(b:Nat)(s:X)(n:X):qdL C fr σ z b s n=qar C fr σ (.appendZ z b s n):=by
 first
  |rfl
  | (simp only[qdL,qar,qab,qaa,qac,qal,qaq,qag,qaf,qae,qak,qah,qaj]; done)
  | (simp only[qdL,qar,qab,qaa,qac,qal,qaq,qag,qaf,qae,qak,qah,qaj]; rfl)
  | (unfold qdL; simp only[qab,qaa,qac,qal,qaq,qag,qaf,qae,qak,qah,qaj]; rfl)
theorem qk6(C:Task->Option Res)(fr:Fr)(σ : S)(kd:KD)(m:X)(k:X):qeK C fr σ kd m k=qar C fr σ (.mapdel kd m k):=by
 first
  |rfl
  | (simp only[qeK,qar,qab,qaa,qac,qal,qaq,qag,qaf,qae,qak,qah,qaj]; done)
  | (simp only[qeK,qar,qab,qaa,qac,qal,qaq,qag,qaf,qae,qak,qah,qaj]; rfl)
  | (unfold qeK; simp only[qab,qaa,qac,qal,qaq,qag,qaf,qae,qak,qah,qaj]; rfl)
theorem qk7(C:Task->Option Res)(fr:Fr)(σ : S)(x:X):qeL C fr σ x=qar C fr σ (.mrange x):=by
 first
  |rfl
  | (simp only[qeL,qar,qab,qaa,qac,qal,qaq,qag,qaf,qae,qak,qah,qaj]; done)
  | (simp only[qeL,qar,qab,qaa,qac,qal,qaq,qag,qaf,qae,qak,qah,qaj]; rfl)
  | (unfold qeL; simp only[qab,qaa,qac,qal,qaq,qag,qaf,qae,qak,qah,qaj]; rfl)
theorem qmp(C:Task->Option Res)(fr:Fr)(σ : S)(x:X):qf0 C fr σ x=qar C fr σ (.mnext x):=by
 first
  |rfl
  | (simp only[qf0,qar,qab,qaa,qac,qal,qaq,qag,qaf,qae,qak,qah,qaj]; done)
  | (simp only[qf0,qar,qab,qaa,qac,qal,qaq,qag,qaf,qae,qak,qah,qaj]; rfl)
  | (unfold qf0; simp only[qab,qaa,qac,qal,qaq,qag,qaf,qae,qak,qah,qaj]; rfl)
theorem qpD(C:Task->Option Res)(fr:Fr)(σ : S):qkR C fr σ = qar C fr σ (.bad):=by
 first
  |rfl
  | (simp only[qkR,qar,qab,qaa,qac,qal,qaq,qag,qaf,qae,qak,qah,qaj]; done)
  | (simp only[qkR,qar,qab,qaa,qac,qal,qaq,qag,qaf,qae,qak,qah,qaj]; rfl)
  | (unfold qkR; simp only[qab,qaa,qac,qal,qaq,qag,qaf,qae,qak,qah,qaj]; rfl)
theorem qok(C:Task->Option Res)(fr:Fr)(σ : S)(k:Nat):qhP C fr σ k=qar C fr σ (.fill k):=by
 first
  |rfl
  | (simp only[qhP,qar,qab,qaa,qac,qal,qaq,qag,qaf,qae,qak,qah,qaj]; done)
  | (simp only[qhP,qar,qab,qaa,qac,qal,qaq,qag,qaf,qae,qak,qah,qaj]; rfl)
  | (unfold qhP; simp only[qab,qaa,qac,qal,qaq,qag,qaf,qae,qak,qah,qaj]; rfl)
theorem qf1(C:Task->Option Res)(fr:Fr)(σ : S)(op:O):qiB C fr σ op=qar C fr σ op:=by
 cases op<;>first
  |rfl
  |exact qpr C fr σ _
  |exact qn7 C fr σ _ _ _
  |exact qmd C fr σ _
  |exact qps C fr σ _
  |exact qme C fr σ _ _
  |exact qkS C fr σ _ _ _
  |exact qjP C fr σ _ _ _ _
  |exact qn8 C fr σ _ _ _
  |exact qmf C fr σ _ _ _
  |exact qkT C fr σ _
  |exact qpt C fr σ _ _ _
  |exact qpu C fr σ _ _ _
  |exact qpv C fr σ _ _ _ _
  |exact qmg C fr σ _ _ _
  |exact qkU C fr σ _ _
  |exact qn9 C fr σ _ _
  |exact qkV C fr σ _ _
  |exact qmh C fr σ _
  |exact qry C fr σ _ _
  |exact qoa C fr σ _ _
  |exact qhQ C fr σ _ _
  |exact qmi C fr σ _ _ _ _
  |exact qhR C fr σ _ _ _
  |exact qg6 C fr σ _ _ _ _
  |exact qkW C fr σ _ _ _ _ _
  |exact qkX C fr σ _ _
  |exact qmj C fr σ _ _ _ _
  |exact qkY C fr σ _ _ _
  |exact qpw C fr σ _ _
  |exact qpx C fr σ _
  |exact qpy C fr σ _
  |exact qkZ C fr σ _ _ _ _
  |exact qjR C fr σ _ _ _ _
  |exact qpz C fr σ _ _ _ _
  |exact qmk C fr σ
  |exact qjQ C fr σ _ _ _ _ _
  |exact qk0 C fr σ _ _ _ _
  |exact qk1 C fr σ _ _ _ _ _
  |exact qob C fr σ _ _ _
  |exact qjS C fr σ _ _
  |exact qoc C fr σ _ _
  |exact qml C fr σ _ _
  |exact qk2 C fr σ _ _ _
  |exact qmm C fr σ _ _
  |exact qmn C fr σ _
  |exact qmo C fr σ
  |exact qod C fr σ _ _
  |exact qjT C fr σ _ _ _ _ _
  |exact qrz C fr σ _
  |exact qoe C fr σ _ _
  |exact qpA C fr σ _ _ _
  |exact qpB C fr σ _
  |exact qof C fr σ _ _ _
  |exact qog C fr σ _
  |exact qk3 C fr σ _ _ _ _ _
  |exact qk4 C fr σ _ _ _ _ _
  |exact qoi C fr σ _ _ _
  |exact qpC C fr σ _ _
  |exact qk5 C fr σ _
  |exact qoj C fr σ _
  |exact qjU C fr σ _ _ _ _
  |exact qk6 C fr σ _ _ _
  |exact qk7 C fr σ _
  |exact qmp C fr σ _
  |exact qpD C fr σ
  |exact qoh C fr σ _ _
  |exact qok C fr σ _
noncomputable def qk8(C:Task->Option Res)(fr:Fr)(σ : S):O->Option (V × S)
 |.call f xs=>match qnW fr xs with
  |some vs=>qe4 C (.call f) (qbT f vs σ).1 (qbT f vs σ).2
  |none=>none
 |.invoke tbl x xs=>match evK fr x,qnW fr xs with
  |some (.iface t v),some vs=>match tbl.lookup t with
   |some g=>qe4 C (.call g) (qbT g (v::vs) σ).1 (qbT g (v::vs) σ).2
   |none=>none
  |_,_=>none
 |.callv f xs=>match evK fr f,qnW fr xs with
  |some (.fn id a b),some vs=>qe4 C (.call id) (a++(qbT id vs σ).1++b) (qbT id vs σ).2
  |some (.bm g v),some vs=>qe4 C (.call g) (qbT g (v::vs) σ).1 (qbT g (v::vs) σ).2
  |_,_=>none
 |.panic x=>match evK fr x with
  |some (.iface t v)=>some (.iface t v,σ)
  |_=>none
 |_=>none
noncomputable def qhS(C:Task->Option Res)(is:List I):Fr->S->Option (Fr × S):=List.rec (motive:=fun _=>Fr->S->Option (Fr × S)) (fun fr σ => some (fr,σ))
 (fun i _ ih fr σ => Option.rec (motive:=fun _=>Option (Fr × S)) none (fun w=>Bool.rec (motive:=fun _=>Option (Fr × S)) (ql5 i.dst (.dat (.lit undef)) fr fun fr=>ih fr σ) (Option.rec (motive:=fun _=>Option (Fr × S)) none (fun p=>Prod.rec (motive:=fun _=>Option (Fr × S)) (fun v σ'=>ql5 i.dst v fr fun fr=>ih fr σ') p) (qiB C fr σ i.op)) w) (qds fr i.guard)) is
theorem qk9(C:Task->Option Res) : ∀ (is:List I) (fr:Fr) (σ : S),qhS C is fr σ = qbM C is fr σ
 |[],_,_=>rfl
 |i::r,fr,σ=>by
  have ih:=qk9 C r
  rw[qbM,<- qdE]
  show Option.rec (motive:=fun _=>Option (Fr × S)) none (fun w=>Bool.rec (motive:=fun _=>Option (Fr × S)) (ql5 i.dst (.dat (.lit undef)) fr fun fr=>qhS C r fr σ) (Option.rec (motive:=fun _=>Option (Fr × S)) none (fun p=>Prod.rec (motive:=fun _=>Option (Fr × S)) (fun v σ'=>ql5 i.dst v fr fun fr=>qhS C r fr σ') p) (qiB C fr σ i.op)) w) (qds fr i.guard)=_
  cases qds fr i.guard with
  |none=>rfl
  |some b=>cases b with
   |false=>show ql5 i.dst (.dat (.lit undef)) fr (fun fr=>qhS C r fr σ)=_; rw[qjD]; exact ih _ _
   |true=>
    show Option.rec (motive:=fun _=>Option (Fr × S)) none (fun p=>Prod.rec (motive:=fun _=>Option (Fr × S)) (fun v σ'=>ql5 i.dst v fr fun fr=>qhS C r fr σ') p) (qiB C fr σ i.op)=_
    rw[qf1]
    cases qar C fr σ i.op with
    |none=>rfl
    |some p=>obtain⟨v,σ'⟩:=p; show ql5 i.dst v fr (fun fr=>qhS C r fr σ')=_; rw[qjD]; exact ih _ _
noncomputable def qhT(C:Task->Option Res):List I->Fr->S->Option (V × Fr × S)
 |[],_,_=>none
 |i::r,fr,σ => match qds fr i.guard with
  |some true=>match qiB C fr σ i.op with
   |some (v,σ')=>qhT C r (fr.put i.dst v) σ'
   |none=>match qk8 C fr σ i.op with
    |some (v,σ')=>some (v,fr,σ')
    |none=>none
  |some false=>qhT C r (fr.put i.dst (.dat (.lit undef))) σ
  |none=>none
noncomputable def qhU(e:Ev)(r:Option (List Ev × Fr × S)):Option (List Ev × Fr × S):=Option.rec (motive:=fun _=>Option (List Ev × Fr × S)) none (fun p=>Prod.rec (motive:=fun _=>Option (List Ev × Fr × S)) (fun l q=>some (e::l,q)) p) r
noncomputable def qfp(C:Task->Option Res)(is:List I):Fr->S->Option (List Ev × Fr × S):=List.rec (motive:=fun _=>Fr->S->Option (List Ev × Fr × S)) (fun fr σ => some ([],fr,σ))
 (fun i _ ih fr σ => Option.rec (motive:=fun _=>Option (List Ev × Fr × S)) none (fun w=>Bool.rec (motive:=fun _=>Option (List Ev × Fr × S)) (ql5 i.dst (.dat (.lit undef)) fr fun fr'=>qhU .pure (ih fr' σ)) (Option.rec (motive:=fun _=>Option (List Ev × Fr × S)) none (fun p=>Prod.rec (motive:=fun _=>Option (List Ev × Fr × S)) (fun v σ'=>ql5 i.dst v fr fun fr'=>qhU (qck fr σ i.op) (ih fr' σ')) p) (qiB C fr σ i.op)) w) (qds fr i.guard)) is
theorem qiM(C:Task->Option Res) : ∀ (is:List I) (fr:Fr) (σ : S),qfp C is fr σ = qbZ C is fr σ
 |[],_,_=>rfl
 |i::r,fr,σ=>by
  have ih:=qiM C r
  rw[qbZ,<- qdE]
  show Option.rec (motive:=fun _=>Option (List Ev × Fr × S)) none (fun w=>Bool.rec (motive:=fun _=>Option (List Ev × Fr × S)) (ql5 i.dst (.dat (.lit undef)) fr fun fr'=>qhU .pure (qfp C r fr' σ)) (Option.rec (motive:=fun _=>Option (List Ev × Fr × S)) none (fun p=>Prod.rec (motive:=fun _=>Option (List Ev × Fr × S)) (fun v σ'=>ql5 i.dst v fr fun fr'=>qhU (qck fr σ i.op) (qfp C r fr' σ')) p) (qiB C fr σ i.op)) w) (qds fr i.guard)=_
  cases qds fr i.guard with
  |none=>rfl
  |some b=>cases b with
   |false=>
    show ql5 i.dst (.dat (.lit undef)) fr (fun fr'=>qhU .pure (qfp C r fr' σ))=_
    rw[qjD,ih]
    simp only[]
    cases qbZ C r (fr.put i.dst (.dat (.lit undef))) σ <;> rfl
   |true=>
    show Option.rec (motive:=fun _=>Option (List Ev × Fr × S)) none (fun p=>Prod.rec (motive:=fun _=>Option (List Ev × Fr × S)) (fun v σ'=>ql5 i.dst v fr fun fr'=>qhU (qck fr σ i.op) (qfp C r fr' σ')) p) (qiB C fr σ i.op)=_
    rw[qf1]
    cases qar C fr σ i.op with
    |none=>rfl
    |some p=>
     obtain⟨v,σ'⟩:=p
     show ql5 i.dst v fr (fun fr'=>qhU (qck fr σ i.op) (qfp C r fr' σ'))=_
     rw[qjD,ih]
     simp only[]
     cases qbZ C r (fr.put i.dst v) σ'<;>rfl
noncomputable def qf2(C:Task->Option Res):Nat->List I->Fr->S->Option (Nat × List Ev × V × S)
 |_,[],_,_=>none
 |k,i::r,fr,σ => match qds fr i.guard with
  |some true=>match qiB C fr σ i.op with
   |some (v,σ')=>match qf2 C (k+1) r (fr.put i.dst v) σ' with
    |some (p,l,u,σ'')=>some (p,qck fr σ i.op::l,u,σ'')
    |none=>none
   |none=>match qk8 C fr σ i.op with
    |some (v,σ')=>some (k,[],v,σ')
    |none=>none
  |some false=>match qf2 C (k+1) r (fr.put i.dst (.dat (.lit undef))) σ with
   |some (p,l,u,σ'')=>some (p,.pure::l,u,σ'')
   |none=>none
  |none=>none
noncomputable def qla(C:Task->Option Res):List I->Fr->S->Option (List (Fr × S))
 |[],fr,σ => some [(fr,σ)]
 |i::r,fr,σ => match qds fr i.guard with
  |some true=>match qiB C fr σ i.op with
   |some (v,σ')=>match qla C r (fr.put i.dst v) σ' with
    |some l=>some ((fr,σ)::l)
    |none=>none
   |none=>none
  |some false=>match qla C r (fr.put i.dst (.dat (.lit undef))) σ with
   |some l=>some ((fr,σ)::l)
   |none=>none
  |none=>none
noncomputable def qyH (C:Task->Option Res) (ops:List I) (keep:List Nat) (fr:Fr) (σ : S):Option (Ex × Fr × S):=match qhS C ops fr σ with
  |some (fr',σ')=>some (.normal,qnV fr' keep,σ')
  |none=>match qhT C ops fr σ with
   |some (v,fr',σ')=>some (.pan v,fr',σ')
   |none=>none
noncomputable def qyI (C:Task->Option Res) (rs:List (Nat × List D)) (ops:List I) (keep lasts:List Nat) (fr:Fr) (σ : S):Option (Ex × Fr × S):=match qfp C ops (qaU σ.length rs fr) (σ ++ qbq rs) with
  |some (es,fr',σ')=>if qot es ops 0 es then some (.normal,qnV fr' keep,σ') else (match qla C ops (qaU σ.length rs fr) (σ ++ qbq rs) with
   |some ss=>if qlm es ss ops 0 es then some (.normal,qnV fr' keep,σ') else none
   |none=>none)
  |none=>match qf2 C 0 ops (qaU σ.length rs fr) (σ ++ qbq rs) with
   |some (p,es,v,σ')=>if lasts.contains p&&qot es (ops.take p) 0 es then some (.pan v,fr.keep [dkey],σ') else none
   |none=>none
noncomputable def rng (C:Task->Option Res) (f:X) (ps:List Nat) (assign body:PC) (fr:Fr) (σ : S):Option (Ex × Fr × S):=match evK fr f with
  |some (.fn id a b)=>match (if (qaR fr).all (fun l=>decide (l < σ.length)) then qdt C (.call id) (a++(.yld σ.length::b)) (σ ++ [.loop ⟨fr.noD,ps,assign,body,0,none⟩]) else none) with
   |some (_,σ')=>match σ'[σ.length]? with
    |some (.loop lp)=>if lp.st=1\/lp.pend.any Ex.isPan=true then none else some (lp.pend.getD .normal,fr,σ'.set σ.length (.loop { lp with st:=3 }))
    |_=>none
   |none=>none
  |_=>none
noncomputable def qv5 (v:Option V) (a b:Option (Ex × Fr × S)):Option (Ex × Fr × S):=match v with
  |some (.dat (.lit (.bool true)))=>a
  |some (.dat (.lit (.bool false)))=>b
  |_=>none
noncomputable def qsJ (id:Nat) (r:Option (Ex × Fr × S)):Option (Ex × Fr × S):=match r with
  |some (.exit id',fr',σ')=>if id'=id then some (.normal,fr',σ') else some (.exit id',fr',σ')
  |r=>r
noncomputable def qyJ (r:Option Res):Option (Ex × Fr × S):=match r with
  |some (.out e fr' σ')=>some (e,fr',σ')
  |_=>none
noncomputable def qoR(C:Task->Option Res)(k:Nat)(pc:PC):Fr->S->Option (Ex × Fr × S):=PC.rec (motive:=fun _=>Fr->S->Option (Ex × Fr × S))
 (fun fr σ => some (.normal,fr,σ))
 (fun d ops keep lasts fr σ => Option.rec (motive:=fun _=>Option (Ex × Fr × S)) (qyH C ops keep fr σ) (fun rs=>qyI C rs ops keep lasts fr σ) d)
 (fun _ _ iha ihb fr σ => qts (iha fr σ) ihb)
 (fun c _ _ iha ihb fr σ => qv5 (evK fr c) (iha fr σ) (ihb fr σ))
 (fun id _ ih fr σ => qsJ id (ih fr σ))
 (fun b _ fr σ => qyJ (C (.loop k b fr σ)))
 (fun id fr σ => some (.exit id,fr,σ))
 (fun fr σ => some (.ret,fr,σ))
 (fun f ps assign body _ _ fr σ => rng C f ps assign body fr σ) pc
noncomputable def qhV(C:Task->Option Res):List V->S->Option Res
 |.yld l::vs,σ => match qkq σ l with
  |some (.loop lp)=>
   if vs.length=lp.ps.length/\(lp.st=0/\(lp.assign.flat&&lp.body.flat)=true/\((qep lp.fr lp.ps vs).get dkey).isNone=true) then
    match qoR C σ.length lp.assign (qep lp.fr lp.ps vs) σ with
    |some (.normal,fr1,σ1)=>match σ1[l]? with
     |some (.loop lp1)=>if lp1.st=0/\(fr1.get dkey).isNone=true then (match qoR C σ.length lp.body fr1 (σ1.set l (.loop { lp1 with st:=1 })) with
      |some (.pan _,_,_)=>none
      |some (e,_,σ2)=>match σ2[l]? with
       |some (.loop lp2)=>match qaO (gcL σ.length [] (σ2.set l (.loop (lp2.ended e)))) [] (σ2.set l (.loop (lp2.ended e))) with
        |some (_,σ3)=>some (.ret (.bool e.isNormal) σ3)
        |none=>none
       |_=>none
      |none=>none) else none
     |_=>none
    |_=>none
   else none
  |_=>none
 |_,_=>none
noncomputable def qgw(pf:PFun)(k:Nat)(fr:Fr)(σ : S):Option Res:=
 match qrJ fr σ pf.results with
 |some vs0=>
  if pf.noseal then qfI k vs0 σ
  else if (qc8 pf.fz k σ vs0).2.all (fun l => !(gcL k (qau (qc8 pf.fz k σ vs0).1) σ).contains l) then qfI k (qc8 pf.fz k σ vs0).1 σ
  else qfI k (qh0 vs0) σ
 |none=>none
noncomputable def qdM(C:Task->Option Res):List V->S->Option S
 |[],σ => some σ
 |.fn id a []::r,σ => match qdt C (.dcall id) (.dat (.lit .nilIface)::a) σ with
  |some (_,σ')=>qdM C r σ'
  |none=>none
 |_,_=>none
noncomputable def qm9(C:Task->Option Res)(pf:PFun)(k:Nat)(fr:Fr)(σ : S):Option Res:=
 match qdM C fr.defs σ with
 |some σ'=>qgw pf k fr σ'
 |none=>none
noncomputable def qmq(C:Task->Option Res)(pf:PFun)(k:Nat)(v:V)(fr:Fr)(σ : S):Option Res:=
 match fr.defs with
 |[]=>match qaO (gcL k v.locs σ) [v] σ with
  |some ([v'],σ')=>some (.ret (.pan v') σ')
  |_=>none
 |.fn id a []::r=>if v.isNilIf then none else (match qdt C (.dcall id) (v::a) σ with
  |some (_,σ')=>match qdM C r σ' with
   |some σ''=>qgw pf k fr σ''
   |none=>none
  |none=>none)
 |_=>none
noncomputable def qlb(C:Task->Option Res)(pf:PFun)(args:List V)(σ : S)(n:Nat):Option Res:=
 if args.length=pf.np then
  match qoR C n pf.body (qbd 0 args) σ with
  |some (.normal,fr,σ')=>if pf.df then qm9 C pf n fr σ' else qgw pf n fr σ'
  |some (.ret,fr,σ')=>if pf.df then qm9 C pf n fr σ' else qgw pf n fr σ'
  |some (.pan v,fr,σ')=>qmq C pf n v fr σ'
  |_=>none
 else none
noncomputable def qhW(C:Task->Option Res)(pf:PFun)(args:List V)(σ : S):Option Res:=qtl (qrm σ) fun n=>qlb C pf args σ n
noncomputable def qgx(C:Task->Option Res)(pf:PFun)(args:List V)(σ : S):Option Res:=
 match args with
 |pv::args=>
  if args.length=pf.np/\pf.df=false/\pf.results.isEmpty=true/\pf.body.flat=true/\(pf.catches=true\/pv.isNilIf=true) then
   match qoR C σ.length pf.body ((qjX,pv)::qbd 0 args) σ with
   |some (.normal,_,σ')=>match qaO (gcL σ.length [] σ') [] σ' with
    |some (_,σ'')=>some (.ret (.dat (.lit undef)) σ'')
    |none=>none
   |some (.ret,_,σ')=>match qaO (gcL σ.length [] σ') [] σ' with
    |some (_,σ'')=>some (.ret (.dat (.lit undef)) σ'')
    |none=>none
   |_=>none
  else none
 |[]=>none
theorem qlc(C:Task->Option Res)(fr:Fr)(σ : S)(op:O):qk8 C fr σ op=qbk C fr σ op:=by
 cases op<;>first
  |rfl
  | (simp only[qk8,qbk,qaa,qaq,qag,qaf,qae]; done)
  | (simp only[qk8,qbk,qaa,qaq,qag,qaf,qae]; rfl)
theorem qgy(pf:PFun)(k:Nat)(fr:Fr)(σ : S):qgw pf k fr σ = qcl pf k fr σ:=by
 simp only[qgw,qcl,ql9]; rfl
theorem qd4(C:Task->Option Res) : ∀ (l:List V) (σ : S),qdM C l σ = qa8 C l σ
 |[],_=>rfl
 |v::r,σ=>by
  have ih:=qd4 C r
  cases v with
  |fn id a b=>cases b with
   |nil=>simp only[qdM,qa8,qab,qaq,qag,qaf,qae,ih]; rfl
   |cons _ _=>rfl
  |_=>rfl
theorem qpE(C:Task->Option Res)(pf:PFun)(k:Nat)(fr:Fr)(σ : S):qm9 C pf k fr σ = qfh C pf k fr σ:=by
 simp only[qm9,qfh,qd4,qgy]; rfl
theorem qol(C:Task->Option Res)(pf:PFun)(k:Nat)(v:V)(fr:Fr)(σ : S):qmq C pf k v fr σ = qeq C pf k v fr σ:=by
 unfold qmq qeq
 simp only[qd4,qgy,qab,qaq,qag,qaf,qae]; rfl
theorem qiN(C:Task->Option Res) : ∀ (is:List I) (fr:Fr) (σ : S),qhT C is fr σ = qb9 C is fr σ
 |[],_,_=>rfl
 |i::r,fr,σ=>by simp only[qhT,qb9,qdE,qf1,qlc,qiN C r]; rfl
theorem qhX(C:Task->Option Res) : ∀ (k:Nat) (is:List I) (fr:Fr) (σ : S),qf2 C k is fr σ = qbA C k is fr σ
 |_,[],_,_=>rfl
 |k,i::r,fr,σ=>by simp only[qf2,qbA,qdE,qf1,qlc,qhX C _ r]; rfl
theorem qld(C:Task->Option Res) : ∀ (is:List I) (fr:Fr) (σ : S),qla C is fr σ = qeP C is fr σ
 |[],_,_=>rfl
 |i::r,fr,σ=>by simp only[qla,qeP,qdE,qf1,qld C r]; rfl
theorem qd5(C:Task->Option Res)(k:Nat) : ∀ (pc:PC) (fr:Fr) (σ : S),qoR C k pc fr σ = run C k pc fr σ
 |.skip,_,_=>rfl
 |.region none ops keep _,fr,σ=>by show qyH C ops keep fr σ = _; simp only[run,qyH,qk9,qiN,qjE]; rfl
 |.region (some rs) ops keep lasts,fr,σ=>by show qyI C rs ops keep lasts fr σ = _; simp only[run,qyI,qiM,qhX,qld,qjE]; rfl
 |.seq a b,fr,σ=>by
  have e:qoR C k b=run C k b:=funext fun fr=>funext fun σ => qd5 C k b fr σ
  show qts (qoR C k a fr σ) (qoR C k b)=_
  rw[qrq,qd5 C k a,e,run]
  rfl
 |.cond c a b,fr,σ=>by show qv5 (evK fr c) (qoR C k a fr σ) (qoR C k b fr σ)=_; rw[qd5 C k a,qd5 C k b,qaq,run]; rfl
 |.block id b,fr,σ=>by show qsJ id (qoR C k b fr σ)=_; rw[qd5 C k b,run]; rfl
 |.loop _,_,_=>rfl
 |.exit _,_,_=>rfl
 |.ret,_,_=>rfl
 |.range f ps assign body,fr,σ=>by show rng C f ps assign body fr σ = _; simp only[run,rng,qaq,qae,qab]; rfl
noncomputable def qom(prog:Nat->Option PFun)(C:Task->Option Res):Task->Option Res
 |.call f args σ => match prog f with
  |some pf=>cond pf.catches none (qhW C pf args σ)
  |none=>none
 |.dcall f args σ => match prog f with
  |some pf=>qgx C pf args σ
  |none=>none
 |.loop k b fr σ => match qyu k fr σ with
  |some (fr0,σ0)=>match qoR C k b fr0 σ0 with
   |some (.normal,fr',σ')=>C (.loop k b fr' σ')
   |some (e,fr',σ')=>some (.out e fr' σ')
   |none=>none
  |none=>none
 |.round args σ => qhV C args σ
end
section
mutual
def eqV:V->V->Bool
 |.dat a,.dat b=>eqD a b
 |.ptr a b,.ptr c d=>Nat.beq a c&&Nat.beq b d
 |.gsl a n s l,.gsl b m t k=>Nat.beq n m&&(Nat.beq s t&&(Nat.beq l k&&qpR a b))
 |.msl a b c d e,.msl f g h i j=>Nat.beq a f&&(Nat.beq b g&&(Nat.beq c h&&(Nat.beq d i&&Nat.beq e j)))
 |.own a b c,.own d e f=>Nat.beq a d&&(Nat.beq b e&&Nat.beq c f)
 |.rw a n,.rw b m=>Nat.beq n m&&qmO a b
 |.agg a,.agg b=>qmO a b
 |.tup a,.tup b=>qmO a b
 |.mp a,.mp b=>Nat.beq a b
 |.iface t a,.iface u b=>Nat.beq t u&&eqV a b
 |.fn f a b,.fn g c d=>Nat.beq f g&&(qmO a c&&qmO b d)
 |.bm t a,.bm u b=>Nat.beq t u&&eqV a b
 |.vw a b c d e,.vw f g h i j=>Nat.beq a f&&(Nat.beq b g&&(Nat.beq c h&&(Nat.beq d i&&Nat.beq e j)))
 |.eptr a b c,.eptr d e f=>Nat.beq a d&&(Nat.beq b e&&Nat.beq c f)
 |.yld a,.yld b=>Nat.beq a b
 |.pan a,.pan b=>eqV a b
 |_,_=>false
def qmO:List V->List V->Bool
 |[],[]=>true
 |a::r,b::t=>eqV a b&&qmO r t
 |_,_=>false
end
mutual
theorem qlR : ∀ {a b:V},eqV a b=true->a=b:=fun {a b} h=>by
 unfold eqV at h
 split at h
 ·rw[qpS h]
 ·simp only[Wh] at h; rw[Nat.eq_of_beq_eq_true h.1,Nat.eq_of_beq_eq_true h.2]
 ·simp only[Wh] at h; rw[Nat.eq_of_beq_eq_true h.1,Nat.eq_of_beq_eq_true h.2.1,Nat.eq_of_beq_eq_true h.2.2.1,qfr h.2.2.2]
 ·simp only[Wh] at h; rw[Nat.eq_of_beq_eq_true h.1,Nat.eq_of_beq_eq_true h.2.1,Nat.eq_of_beq_eq_true h.2.2.1,Nat.eq_of_beq_eq_true h.2.2.2.1,Nat.eq_of_beq_eq_true h.2.2.2.2]
 ·simp only[Wh] at h; rw[Nat.eq_of_beq_eq_true h.1,Nat.eq_of_beq_eq_true h.2.1,Nat.eq_of_beq_eq_true h.2.2]
 ·simp only[Wh] at h; rw[Nat.eq_of_beq_eq_true h.1,qek h.2]
 ·rw[qek h]
 ·rw[qek h]
 ·rw[Nat.eq_of_beq_eq_true h]
 ·simp only[Wh] at h; rw[Nat.eq_of_beq_eq_true h.1,qlR h.2]
 ·simp only[Wh] at h; rw[Nat.eq_of_beq_eq_true h.1,qek h.2.1,qek h.2.2]
 ·simp only[Wh] at h; rw[Nat.eq_of_beq_eq_true h.1,qlR h.2]
 ·simp only[Wh] at h; rw[Nat.eq_of_beq_eq_true h.1,Nat.eq_of_beq_eq_true h.2.1,Nat.eq_of_beq_eq_true h.2.2.1,Nat.eq_of_beq_eq_true h.2.2.2.1,Nat.eq_of_beq_eq_true h.2.2.2.2]
 ·simp only[Wh] at h; rw[Nat.eq_of_beq_eq_true h.1,Nat.eq_of_beq_eq_true h.2.1,Nat.eq_of_beq_eq_true h.2.2]
 ·rw[Nat.eq_of_beq_eq_true h]
 ·rw[qlR h]
 ·cases h
theorem qek : ∀ {a b:List V},qmO a b=true->a=b
 |[],[],_=>rfl
 |a::r,b::t,h=>by
  simp only[qmO,Wh] at h
  rw[qlR h.1,qek h.2]
 |[],_::_,h=>by simp[qmO] at h
 |_::_,[],h=>by simp[qmO] at h
end
def qym:List (Value × V)->List (Value × V)->Bool
 |[],[]=>true
 | (k,v)::r,(l,w)::t=>qrI k l&&(eqV v w&&qym r t)
 |_,_=>false
theorem qqH : ∀ {a b:List (Value × V)},qym a b=true->a=b
 |[],[],_=>rfl
 | (k,v)::r,(l,w)::t,h=>by
  simp only[qym,Wh] at h
  rw[qnd h.1,qlR h.2.1,qqH h.2.2]
 |[],_::_,h=>by cases h
 |_::_,[],h=>by cases h
def qy6:Ob->Ob->Bool
 |.cells a,.cells b=>qmO a b
 |.vec a,.vec b=>qmO a b
 |.froz a,.froz b=>qpR a b
 |.tip a,.tip b=>Nat.beq a b
 |.map a,.map b=>qym a b
 |.iter a,.iter b=>Nat.beq a b
 |.dead,.dead=>true
 |_,_=>false
theorem quV : ∀ {a b:Ob},qy6 a b=true->a=b:=fun {a b} h=>by
 unfold qy6 at h
 split at h
 ·rw[qek h]
 ·rw[qek h]
 ·rw[qfr h]
 ·rw[Nat.eq_of_beq_eq_true h]
 ·rw[qqH h]
 ·rw[Nat.eq_of_beq_eq_true h]
 ·rfl
 ·cases h
def qvr:S->S->Bool
 |[],[]=>true
 |a::r,b::t=>qy6 a b&&qvr r t
 |_,_=>false
theorem qqI : ∀ {a b:S},qvr a b=true->a=b
 |[],[],_=>rfl
 |a::r,b::t,h=>by
  simp only[qvr,Wh] at h
  rw[quV h.1,qqI h.2]
 |[],_::_,h=>by cases h
 |_::_,[],h=>by cases h
section
variable(prog:Nat->Option PFun)
theorem quW{C:Task->Option Res}(h:Le C (Z prog)) : ∀ {t:Task} {r:Res},qom prog C t=some r->Z prog t=some r:=fun {t r} hr=>by
 cases t with
 |call f args σ=>
  simp only[qom] at hr
  cases hf:prog f with
  |none=>rw[hf] at hr; cases hr
  |some pf=>
   rw[hf] at hr
   simp only at hr
   cases hc:pf.catches with
   |true=>rw[hc] at hr; cases hr
   |false=>
    rw[hc] at hr
    simp only[cond_false] at hr
    have e:qhW C pf args σ = qbB C pf args σ:=by
     simp only[qhW,qlb,qhw,qgu,qbB,qd5,qpE,qol,qgy]<;>rfl
    rw[e] at hr
    exact qaD hf hc (qfH h hr)
 |dcall f args σ=>
  simp only[qom] at hr
  cases hf:prog f with
  |none=>rw[hf] at hr; cases hr
  |some pf=>
   rw[hf] at hr
   simp only at hr
   have e:qgx C pf args σ = qaY C pf args σ:=by simp only[qgx,qaY,qd5]<;>rfl
   rw[e] at hr
   exact qth hf (qfj h hr)
 |loop k b fr σ=>
  simp only[qom,qd5,qto] at hr
  cases hg:gcF k fr σ with
  |none=>rw[hg] at hr; cases hr
  |some p=>
   obtain⟨fr0,σ0⟩:=p
   rw[hg] at hr
   simp only at hr
   cases hx:run C k b fr0 σ0 with
   |none=>rw[hx] at hr; cases hr
   |some q=>
    obtain⟨e,fr',σ'⟩:=q
    rw[hx] at hr
    have hx':=qa3 h hx
    cases e with
    |normal=>exact qhu hg hx' (h _ _ hr)
    |exit id=>cases hr; exact qe3 (by intro h; cases h) hg hx'
    |ret=>cases hr; exact qe3 (by intro h; cases h) hg hx'
    |pan v=>cases hr; exact qe3 (by intro h; cases h) hg hx'
 |round args σ=>
  have e:qhV C args σ = qb3 C args σ:=by simp only[qhV,qb3,qd5,qae,qaf]<;>rfl
  simp only[qom,e] at hr
  exact qti (qfG h hr)
noncomputable def qkf(sc:Task->Option Res):Nat->Task->Option Res
 |0,_=>none
 |n+1,t=>Option.rec (motive:=fun _=>Option Res) (qom prog (qkf sc n) t) (fun r=>some r) (sc t)
theorem qin{sc:Task->Option Res}(h:Le sc (Z prog)) : ∀ n,Le (qkf prog sc n) (Z prog)
 |0=>fun t r hr=>by cases hr
 |n+1=>fun t r hr=>by
  simp only[qkf] at hr
  cases hs:sc t with
  |some x=>rw[hs] at hr; cases hr; exact h _ _ hs
  |none=>rw[hs] at hr; exact quW prog (qin h n) hr
structure Kn where
 f:Nat
 args:List V
 σ : S
 v:V
 τ : S
def Kn.ok(k:Kn):Prop:=Z prog (.call k.f k.args k.σ)=some (.ret k.v k.τ)
noncomputable def qmP(f:Nat)(args:List V)(σ : S):List Kn->Option Res:=List.rec (motive:=fun _=>Option Res) none fun k _ ih=>cond (Nat.beq k.f f) (cond (qmO k.args args) (cond (qvr k.σ σ) (fV k.v fun v=>fS k.τ fun τ => some (.ret v τ)) ih) ih) ih
theorem qqJ{f:Nat}{args:List V}{σ : S} : ∀ {L:List Kn},(∀ k∈L,k.ok prog) -> ∀ {r:Res},qmP f args σ L=some r->Z prog (.call f args σ)=some r
 |[],_,_,h=>by cases h
 |k::L,hL,r,h=>by
  have ih : ∀ {r:Res},qmP f args σ L=some r->Z prog (.call f args σ)=some r:=qqJ fun k hk=>hL k (WH _ hk)
  have h':cond (Nat.beq k.f f) (cond (qmO k.args args) (cond (qvr k.σ σ) (fV k.v fun v=>fS k.τ fun τ => some (.ret v τ)) (qmP f args σ L)) (qmP f args σ L)) (qmP f args σ L)=some r:=h
  cases h1:Nat.beq k.f f with
  |false=>rw[h1] at h'; exact ih h'
  |true=>
   cases h2:qmO k.args args with
   |false=>rw[h1,h2] at h'; exact ih h'
   |true=>
    cases h3:qvr k.σ σ with
    |false=>rw[h1,h2,h3] at h'; exact ih h'
    |true=>
     rw[h1,h2,h3] at h'
     simp only[cond_true,qlu,qrV] at h'
     cases h'
     have:=hL k (W7 ..)
     unfold Kn.ok at this
     rw[Nat.eq_of_beq_eq_true h1,qek h2,qqI h3] at this
     exact this
end
end
section
attribute [simp] qvm qrG qll qbT qi1 qnc qoS qh1 outV qiC qre qc8 finishV Ob.rows qvo qor appendO appendT qpL qh2 V.isStr qoq qfk qfh qeq qa8 Fr.defs qbk qb9 qc6 undef qbB qbd run qbM qbZ qar qaQ X.ev evs qcf qci Fr.get Fr.put Fr.keep qrf unV qpK qcl qrJ qdQ qh0 V.sealT V.sealv qaO qc9 qi2 qeM qi3 qau V.locs qeN inL closed qbl V.ren one
 gcL gcF qaR qd8 Ob.locs Ob.ren qc7 qjW idx back qaF qaE qbq qaU qot qh4 qck qcM qdh qh3 qco storeV qbV qvn Value.oneCell' qaI V.aggCells qcJ qdu
@[simp] theorem qyx(v:Value):V.one (.dat (.lit v))=v.oneCell':=rfl
@[simp] theorem qvT(v:Value):V.cells (.dat (.lit v))=[(.dat (.lit v))]:=rfl
@[simp] theorem qze(cs:List D)(n:Nat)(f:Bool):V.one (.dat (.sl cs n f))=true:=rfl
@[simp] theorem qx4(cs:List D)(n:Nat)(f:Bool):V.cells (.dat (.sl cs n f))=[(.dat (.sl cs n f))]:=rfl
@[simp] theorem qyy(cs:List D)(o:Nat):V.one (.dat (.imm cs o))=true:=rfl
@[simp] theorem qvU(cs:List D)(o:Nat):V.cells (.dat (.imm cs o))=[(.dat (.imm cs o))]:=rfl
@[simp] theorem qx5(cs:List D):V.one (.dat (.agg cs))=false:=rfl
@[simp] theorem qvj(cs:List D):V.cells (.dat (.agg cs))=cs.map .dat:=rfl
@[simp] theorem qvk(t:Nat)(d:D):V.one (.dat (.iface t d))=true:=rfl
@[simp] theorem qsI(t:Nat)(d:D):V.cells (.dat (.iface t d))=[(.dat (.iface t d))]:=rfl
@[simp] theorem qyz(l o:Nat):V.one (.ptr l o)=true:=rfl
@[simp] theorem qvV(l o:Nat):V.cells (.ptr l o)=[(.ptr l o)]:=rfl
@[simp] theorem qyA(cs:List D)(n sz l:Nat):V.one (.gsl cs n sz l)=true:=rfl
@[simp] theorem qvW(cs:List D)(n sz l:Nat):V.cells (.gsl cs n sz l)=[(.gsl cs n sz l)]:=rfl
@[simp] theorem qyB(l o n cap sz:Nat):V.one (.msl l o n cap sz)=true:=rfl
@[simp] theorem qvX(l o n cap sz:Nat):V.cells (.msl l o n cap sz)=[(.msl l o n cap sz)]:=rfl
@[simp] theorem qyC(l n sz:Nat):V.one (.own l n sz)=true:=rfl
@[simp] theorem qvY(l n sz:Nat):V.cells (.own l n sz)=[(.own l n sz)]:=rfl
@[simp] theorem qx6(l n o:Nat):V.one (.eptr l n o)=true:=rfl
@[simp] theorem qvl(l n o:Nat):V.cells (.eptr l n o)=[(.eptr l n o)]:=rfl
@[simp] theorem qzf(g:Nat)(v:V):V.one (.bm g v)=true:=rfl
@[simp] theorem qx7(g:Nat)(v:V):V.cells (.bm g v)=[(.bm g v)]:=rfl
@[simp] theorem qyD(cs:List V):V.one (.agg cs)=false:=rfl
@[simp] theorem qvZ(cs:List V):V.cells (.agg cs)=cs:=rfl
@[simp] theorem qzg(f:Nat)(a b:List V):V.one (.fn f a b)=true:=rfl
@[simp] theorem qx8(f:Nat)(a b:List V):V.cells (.fn f a b)=[(.fn f a b)]:=rfl
@[simp] theorem qzh(l:Nat):V.one (.mp l)=true:=rfl
@[simp] theorem qx9(l:Nat):V.cells (.mp l)=[(.mp l)]:=rfl
@[simp] theorem qv0(t:Nat)(v:V):V.one (.iface t v)=true:=rfl
@[simp] theorem qtG(t:Nat)(v:V):V.cells (.iface t v)=[(.iface t v)]:=rfl
@[simp] theorem qyE(vs:List V):V.one (.tup vs)=false:=rfl
@[simp] theorem qv1(vs:List V):V.cells (.tup vs)=[(.tup vs)]:=rfl
@[simp] theorem qyF(l:Nat):V.one (.yld l)=true:=rfl
@[simp] theorem qv2(l:Nat):V.cells (.yld l)=[(.yld l)]:=rfl
@[simp] theorem qya{α : Type}(cs:List α):qad cs 0 0=some []:=by simp[qad]
@[simp] theorem qyb{α : Type}(c : α)(cs:List α)(n:Nat):qad (c::cs) 0 (n+1)=(qad cs 0 n).map (c :: ·):=by grind [qad]
@[simp] theorem qyc{α : Type}(c : α)(cs:List α)(o n:Nat):qad (c::cs) (o+1) n=qad cs o n:=by
 simp only[qad,List.drop_succ_cons]
@[simp] theorem qyG(a b:Int):eqI a b=decide (a=b):=rfl
abbrev I64(n:Int):Prop := -9223372036854775808<=n/\n<=9223372036854775807
theorem qay(n:Int)(h : -9223372036854775808<=n/\n<=9223372036854775807):IntKind.i64.wrap n=n:=by rw[IntKind.wrap_i64]; omega
def intsC(xs:List Int):List D:=xs.map fun x => .lit (.int .i64 x)
def qpo:List Int->D
 |[] => .lit (.slice none 0 0)
 |x::xs => .sl (intsC (x::xs)) (x::xs).length false
@[simp] theorem qv3(σ : S)(xs:List Int):V.len σ .sl (.dat (qpo xs))=some xs.length:=by
 cases xs<;>simp[qpo,V.len]
@[simp] theorem qv4(xs:List Int):V.one (.dat (qpo xs))=true:=by cases xs<;>rfl
@[simp] theorem qtH(xs:List Int):V.cells (.dat (qpo xs))=[.dat (qpo xs)]:=by cases xs<;>rfl
theorem qhB(xs:List Int)(i:Nat)(h:i<xs.length):qad (intsC xs) i 1=some [.lit (.int .i64 xs[i])]:=by
 unfold qad intsC
 rw[W5 (by simpa using h)]
 simp
end
section
open Go
theorem qlK{P:Program}(h:P.funcs.toList.any Func.goes=false)(f:FuncId):P.goes f=false:=by
 have h1 : ∀ g:Nat,(P.funcs[g]?).any Func.goes=false:=fun g=>by
  cases hg:P.funcs[g]? with
  |none=>rfl
  |some fn=>
   have hm:fn∈P.funcs.toList:=by
    rw[WY] at hg
    obtain⟨hl,rfl⟩:=hg
    simp
   have:=List.any_eq_false.1 h fn hm
   simpa using this
 have h2:P.funcs.any Func.goes=false:=by rw[<- Array.any_toList]; exact h
 unfold Program.goes
 rw[h2,Bool.and_false,Bool.or_false]
 exact List.any_eq_false.2 fun g _=>by rw[h1 g]; simp
theorem goesBy_none{P:Program}(h:P.funcs.toList.any Func.goes=false)(c:OpenClaim):c.goesBy P=false:=by
 have hf : ∀ s,P.goesFrom s=false:=fun s=>by
  unfold Program.goesFrom
  cases P.funcNamed s with
  |none=>rfl
  |some f=>exact qlK h f
 unfold OpenClaim.goesBy Program.goesAt
 rw[hf,Bool.false_or]
 split
 ·rfl
 ·exact List.any_eq_false.2 fun g _=>by rw[qlK h]; simp
end
section
def RowV(v:D)(xs:List Int):Prop:=
 (∃ o,v = .lit (.slice o 0 0)/\xs=[])\/v = .sl (intsC xs) xs.length false
theorem RowV.one{v:D}{xs:List Int}(h:RowV v xs):V.one (.dat v)=true:=by rcases h with ⟨o,rfl,rfl⟩|rfl<;>rfl
theorem RowV.cells{v:D}{xs:List Int}(h:RowV v xs):V.cells (.dat v)=[.dat v]:=by rcases h with ⟨o,rfl,rfl⟩|rfl<;>rfl
theorem qlz(F:Nat->Nat)(w:World) : ∀ xs:List Int,RepDs F w (intsC xs) (xs.map (.int .i64))
 |[]=>rfl
 |x::xs=>⟨_,_,rfl,⟨rfl,rfl⟩,qlz F w xs⟩
theorem row_rep (fid:Fid) {w:World} {a:Option Addr} {len cap:Nat} {zs:List Int}
  (h:(a=none/\len=0/\cap=0/\zs=[]) \/ ∃ x,a=some x/\len<=cap/\cap<=maxLen/\zs.length=cap/\(∀ i,i<zs.length->w.cell? (x.add i)=some (.int .i64 (zs.getD i 0))) /\ ∀ n∈zs,(Lit.int .i64 n).wf=true) :
  ∃ d,RowV d (zs.take len)/\(∀ x∈zs.take len,I64 x)/\Rep fid (qgt w) (.dat d) (.slice a len cap):=by
 rcases h with ⟨rfl,rfl,rfl,rfl⟩|⟨x,rfl,h1,h2,h3,h4,h5⟩
 ·exact⟨.lit (.slice none 0 0),.inl ⟨_,rfl,rfl⟩,by simp,rfl,rfl⟩
 by_cases hc:cap=0
 ·subst hc
  have:len=0:=by omega
  subst this
  exact⟨.lit (.slice (some x) 0 0),.inl ⟨_,rfl,by simp⟩,by simp,rfl,rfl⟩
 have hl:(zs.take len).length=len:=by rw[WR]; omega
 have hs:x.spot=none:=World.cell?_spot (v := .int .i64 (zs.getD 0 0)) (by simpa [Addr.add] using h4 0 (by omega))
 obtain⟨b,o,sp⟩:=x
 simp only at hs
 subst hs
 have hcell : ∀ i,i<zs.length->w.cell? ⟨b,o+i,none⟩=some (.int .i64 (zs.getD i 0)):=fun i hi=>by
  have:=h4 i hi
  by_cases h0:i=0
  ·subst h0; simpa [Addr.add] using this
  ·simpa [Addr.add,h0] using this
 refine⟨.sl (intsC (zs.take len)) len false,.inr (by rw[hl]),fun n hn=>?_,b,o,cap,(zs.take len).map (.int .i64),rfl,h1,by simp,qlz _ _ _,?_,?_,?_⟩
 ·have:=h5 n (W8 hn)
  simp only[Lit.wf,Wh,decide_eq_true_eq] at this
  have e1:IntKind.i64.min = -9223372036854775808:=by decide
  have e2:IntKind.i64.max=9223372036854775807:=by decide
  unfold I64
  omega
 ·intro i v hv
  rw[WZ,WN] at hv
  split at hv
  ·rename_i hi
   rw[Wy (by omega)] at hv
   simp only[WO,Wd] at hv
   subst hv
   rw[show (qgt w).w=w from rfl,hcell i (by omega)]
   simp[Yl,show i<zs.length by omega]
  ·simp at hv
 ·intro hp
  simp only[Wf,hl] at hp ⊢
  have:=hcell (len-1) (by omega)
  unfold World.cell? at this
  simp only[qgt,qsD]
  split at this
  ·rename_i c _ _ hb
   rw[hb]
   simp only[YA,Wz,if_false] at this
   have hlt:o+(len-1)<c.size:=by
    rcases Yn (o+(len-1)) c.size with h'|h'
    ·exact h'
    ·rw[Array.getElem?_eq_none h'] at this; cases this
   simp only
   omega
  ·cases this
 ·intro v hv
  obtain⟨n,_,rfl⟩:=Wm.1 hv
  rfl
theorem int_rep(fid:Fid)(w:World)(n:Int):Rep fid (qgt w) (.int n) (.int .i64 n):=⟨rfl,rfl⟩
theorem reps_cons{fid:Fid}{Γ : Ctx}{a:V}{x:Value}{as:List V}{xs:List Value}(h:Rep fid Γ a x)(k:Reps fid Γ as xs):Reps fid Γ (a::as) (x::xs):=⟨_,_,rfl,h,k⟩
end
section
def fl(P:Program):Nat->TypeId->DataW Unit->Option (List Value)
 |0,_,_=>none
 |m+1,t,d=>match P.underlying t,d with
  |some (.int k),.lit (.int k' n)=>if k=k' then some [.int k n] else none
  |some (.array n e),.agg ds=>match ds.mapM (fl P m e) with
   |some vs=>if ds.length=n/\vs.all (fun v=>v.length==P.cellsOf e)/\P.cellsOf t=n*P.cellsOf e then some vs.flatten else none
   |none=>none
  |some (.struct fs),.agg ds=>match (fs.toList.zip ds).mapM (fun x=>fl P m x.1.type x.2) with
   |some vs=>if ds.length=fs.size/\((fs.toList.zip vs).all (fun x=>x.2.length==P.cellsOf x.1.type))/\(List.range fs.size).all (fun i=>(fs[i]?.map (·.offset)).getD 0==(vs.take i).flatten.length)/\P.cellsOf t=vs.flatten.length then some vs.flatten else none
   |none=>none
  |_,_=>none
theorem parts{α : Type} : ∀ (vs:List (List α)) (cs:List α) (o:Nat),(∀ (i:Nat) (v:List α),vs[i]?=some v->(cs.drop (o+(vs.take i).flatten.length)).take v.length=v)->cs.length=o+vs.flatten.length->cs.drop o=vs.flatten
 |[],cs,o,_,hl=>by simp at hl; simp[hl]
 |v::vs,cs,o,h,hl=>by
  have h0:=h 0 v rfl
  simp only[List.take_zero,List.flatten_nil,W4,W1] at h0
  have ih:=parts vs cs (o+v.length) (fun i u hu=>by
   have:=h (i+1) u hu
   simpa [Yj] using this) (by rw[WJ,Wt] at hl; omega)
  rw[WJ,<- ih]
  have e:=WU v.length (cs.drop o)
  rw[h0,List.drop_drop] at e
  exact e.symm
theorem qkg{α β : Type}{f : α -> Option β} : ∀ {l:List α} {r:List β},l.mapM f=some r->r.length=l.length /\ ∀ (i:Nat) (a : α),l[i]?=some a -> ∃ b,r[i]?=some b/\f a=some b
 |[],r,h=>by simp at h; subst h; simp
 |a::l,r,h=>by
  simp only[List.mapM_cons,Option.pure_def,Option.bind_eq_bind,Option.bind_eq_some_iff,Wd] at h
  obtain⟨b,hb,r',hr,rfl⟩:=h
  obtain⟨h1,h2⟩:=qkg hr
  refine⟨by simp[h1],fun i x hx=>?_⟩
  cases i with
  |zero=>simp at hx; subst hx; exact⟨b,rfl,hb⟩
  |succ i=>simpa using h2 i x (by simpa using hx)
theorem qe0{α : Type}(m:Nat) : ∀ (vs:List (List α)) (i:Nat),(∀ v∈vs,v.length=m)->i<=vs.length->(vs.take i).flatten.length=i*m
 |_,0,_,_=>by simp
 |[],i+1,_,h=>by simp at h
 |v::vs,i+1,h,hi=>by
  simp only[List.take_succ_cons,WJ,Wt]
  rw[qe0 m vs i (fun u hu=>h u (WH _ hu)) (by simpa using hi),h v W7,WW]
  omega
section
variable{enc:TypeId × Value->Unit}{P:Program}{w:World}{base:Nat}{spare:Nat->Bool}{held:Bool}
theorem qmQ : ∀ (m:Nat) (t:TypeId) (d:DataW Unit) (vs:List Value) (fuel:Nat) (cs:List Value) (p:List MemPlace),fl P m t d=some vs->DataW.trod enc P w base spare held fuel t cs=some (d,p)->cs=vs
 |0,t,d,vs,fuel,cs,p,h,_=>by simp[fl] at h
 |m+1,t,d,vs,fuel,cs,p,h,ht=>by
  unfold fl at h
  split at h
  ·rename_i k k' n hu
   split at h
   ·rename_i hk
    subst hk
    cases h
    obtain⟨n',rfl,e,_⟩:=DataW.trod_int hu ht
    simp only[Wx,DataW.lit.injEq,Lit.int.injEq] at e
    rw[e.1.2]
   ·cases h
  ·rename_i n e ds hu
   split at h
   ·rename_i us hus
    split at h
    ·rename_i hc
     cases h
     obtain⟨h1,h2,h3⟩:=hc
     obtain⟨xs,q,rfl,hx,hl,hn,hel⟩:=DataW.trod_array hu ht
     simp only[Wx,DataW.agg.injEq] at hx
     obtain⟨g1,g2⟩:=qkg hus
     have hlen : ∀ v∈us,v.length=P.cellsOf e:=fun v hv=>by simpa using Ws.1 h2 v hv
     have hp:=parts us cs 0 (fun i v hv=>by
      have hi:i<us.length:=(Wb.1 hv).1
      have hfl:=qe0 (P.cellsOf e) us i hlen (by omega)
      rw[WF,hfl,hlen v (Wv hv)]
      have:=hel i (by omega)
      obtain⟨x,hxi⟩ : ∃ x,xs[i]?=some x:=⟨xs[i]'(by omega),Wy (by omega)⟩
      rw[hxi] at this
      have hd:ds[i]?=some x.1:=by rw[hx.1]; simp[hxi]
      obtain⟨b,hb,hf⟩:=g2 i _ hd
      rw[hv] at hb
      cases hb
      exact qmQ m e x.1 v q _ x.2 hf this) (by
      have hfl:=qe0 (P.cellsOf e) us us.length hlen (by omega)
      rw[Ys] at hfl
      rw[hl,h3,hfl,g1,h1]; simp)
     simpa using hp
    ·cases h
   ·cases h
  ·rename_i fs ds hu
   split at h
   ·rename_i us hus
    split at h
    ·rename_i hc
     cases h
     obtain⟨h1,h2,h3,h4⟩:=hc
     obtain⟨xs,q,rfl,hx,hl,hn,hel⟩:=DataW.trod_struct hu ht
     simp only[Wx,DataW.agg.injEq] at hx
     obtain⟨g1,g2⟩:=qkg hus
     have gl:us.length=fs.size:=by rw[g1]; simp[h1]
     have hp:=parts us cs 0 (fun i v hv=>by
      have hi:i<us.length:=(Wb.1 hv).1
      obtain⟨f,hf⟩ : ∃ f,fs[i]?=some f:=⟨fs[i]'(by omega),Array.getElem?_eq_getElem (by omega)⟩
      have hfl:fs.toList[i]?=some f:=by simpa using hf
      have ho:=Ws.1 h3 i (by simp; omega)
      simp only[hf,WO,Option.getD_some,beq_iff_eq] at ho
      have hz:(fs.toList.zip us)[i]?=some (f,v):=by simp[List.getElem?_zip_eq_some,hfl,hv]
      have hlv:=Ws.1 h2 (f,v) (Wv hz)
      simp only[beq_iff_eq] at hlv
      rw[WF,<- ho,hlv]
      have:=hel i f hf
      obtain⟨x,hxi⟩ : ∃ x,xs[i]?=some x:=⟨xs[i]'(by omega),Wy (by omega)⟩
      rw[hxi] at this
      have hd:ds[i]?=some x.1:=by rw[hx.1]; simp[hxi]
      have hz2:(fs.toList.zip ds)[i]?=some (f,x.1):=by simp[List.getElem?_zip_eq_some,hfl,hd]
      obtain⟨b,hb,hf2⟩:=g2 i _ hz2
      rw[hv] at hb
      cases hb
      exact qmQ m f.type x.1 v q _ x.2 hf2 this) (by rw[hl,h4]; simp)
     simpa using hp
    ·cases h
   ·cases h
  ·cases h
end
theorem qjs{F:Nat->Nat}{w:World} : ∀ (vs:List Value),(vs.all fun v=>qbo v)=true->RepDs F w (vs.map .lit) vs
 |[],_=>rfl
 |v::vs,h=>by
  simp only[WQ,Wh] at h
  exact⟨v,vs,rfl,⟨rfl,h.1⟩,qjs vs h.2⟩
end
section
open Go
theorem qnb {P:Program} {w:World} {n:String} {d:DataW Unit} : ∀ (L:List (String × DataW Unit)) (ps:List MemPlace),DataW.LaidVars P w L ps->(n,d)∈L ->
  ∃ g t cs fuel p,P.globalNamed n=some g/\(P.globals[g]?).map (·.type)=some t/\w.var? P n=some cs/\DataW.trod (fun _=>()) P w 0 (fun _=>true) false fuel t cs.toList=some (d,p)
 |[],ps,_,hm=>by cases hm
 | (n',d')::r,ps,h,hm=>by
  obtain⟨g,t,cs,fuel,p,q,h1,h2,h3,h4,h5,_⟩:=h
  rcases Wq.1 hm with e|hm
  ·cases e; exact⟨g,t,cs,fuel,p,h1,h2,h3,h4⟩
  ·exact qnb r q h5 hm
theorem glb_of_laids {P:Program} {w:World} {n:String} {d:DataW Unit} {L:List (String × DataW Unit)} {g:Nat} {t:TypeId} {vs:List Value} {m:Nat} (hmem:(n,d)∈L) (hg:P.globalNamed n=some g) (ht:(P.globals[g]?).map (·.type)=some t)
  (hf:fl P m t d=some vs) (hv:(vs.all fun v=>qbo v&&v.oneCell')=true) (h:laidMet P L w):RepDs (qsD w) w (vs.map .lit) vs/\Row (qsD w) w g 0 vs:=by
 obtain⟨ps,hL,_,hcell⟩:=h
 obtain⟨g0,t0,cs,fuel,p,hg0,ht0,hvar,hd⟩:=qnb L ps hL hmem
 obtain rfl:=Yz (hg.symm.trans hg0)
 obtain rfl:=Yz (ht.symm.trans ht0)
 have e:=qmQ m t d vs fuel cs.toList p hf hd
 have hc : ∀ i,w.cell? ⟨g,i,none⟩=vs[i]?:=fun i=>by rw[World.var?_cell hg hvar i,<- e]; simp
 refine⟨qjs vs (by
  rw[Ws] at hv ⊢
  intro v hvm
  have:=hv v hvm
  simp only[Wh] at this
  exact this.1),fun i v hi=>by rw[WF,hc,hi],fun hl=>?_,fun v hvm=>?_⟩
 ·have h0:w.cell? ⟨g,vs.length-1,none⟩=some (vs[vs.length-1]'(by omega)):=by rw[hc,Wy]
  unfold World.cell? at h0
  unfold qsD
  split at h0
  ·rename_i c _ _ hb
   rw[hb]
   simp only[YA,Wz,if_false] at h0
   have hlt:vs.length-1<c.size:=by
    rcases Yn (vs.length-1) c.size with h'|h'
    ·exact h'
    ·rw[Array.getElem?_eq_none h'] at h0; cases h0
   simp only
   omega
  ·cases h0
 ·have:=Ws.1 hv v hvm
  simp only[Wh] at this
  exact this.2
theorem wf_i64{n:Int}(h:(Lit.int .i64 n).wf=true):I64 n:=by
 simp only[Lit.wf,Wh,decide_eq_true_eq] at h
 have e1:IntKind.i64.min = -9223372036854775808:=by decide
 have e2:IntKind.i64.max=9223372036854775807:=by decide
 unfold I64
 omega
end
end Go.Pm
section
namespace Go.Pm.F
@[simp] abbrev sN:D := .lit (.slice none 0 0)
@[simp] abbrev eN:D := .lit (.string ⟨#[]⟩)
@[simp] abbrev zN:D := .lit (.int .i64 0)
@[simp] abbrev ii(n:Int):D := .lit (.int .i64 n)
@[simp] abbrev kk(n:Int):X := .c (.int .i64 n)
@[simp] abbrev kT:X := .c (.bool true)
@[simp] abbrev kF:X := .c (.bool false)
@[simp] abbrev jj(d:Nat)(o:O):I:=⟨some d,o,none,[]⟩
@[simp] abbrev jn(o:O):I:=⟨none,o,none,[]⟩
@[simp] abbrev jt(d g:Nat)(o:O):I:=⟨some d,o,some (g,true),[]⟩
@[simp] abbrev jf(d g:Nat)(o:O):I:=⟨some d,o,some (g,false),[]⟩
@[simp] abbrev mv(d a:Nat):I:=⟨some d,.mov (.t a),none,[]⟩
@[simp] abbrev mx(d:Nat)(x:X):I:=⟨some d,.mov x,none,[]⟩
@[simp] abbrev l1(d a:Nat):I:=⟨some d,.load false 1 (.t a),none,[]⟩
@[simp] abbrev la(d n a:Nat):I:=⟨some d,.load true n (.t a),none,[]⟩
@[simp] abbrev fa(d o a:Nat):I:=⟨some d,.fieldAddr o (.t a),none,[]⟩
@[simp] abbrev nc(d a:Nat):I:=⟨some d,.nilchk (.t a),none,[]⟩
@[simp] abbrev bx(d a:Nat):I:=⟨some d,.box (.t a),none,[]⟩
@[simp] abbrev ex(d a n:Nat):I:=⟨some d,.extract (.t a) n,none,[]⟩
@[simp] abbrev ls(d a:Nat):I:=⟨some d,.len .sl (.t a),none,[]⟩
@[simp] abbrev lz(d a:Nat):I:=⟨some d,.len .str (.t a),none,[]⟩
@[simp] abbrev bn(d:Nat)(o:BinOp)(a b:Nat):I:=⟨some d,.bin o (.t a) (.t b),none,[]⟩
@[simp] abbrev bk(d:Nat)(o:BinOp)(a:Nat)(n:Int):I:=⟨some d,.bin o (.t a) (.c (.int .i64 n)),none,[]⟩
@[simp] abbrev st(n a b:Nat):I:=⟨none,.store n (.t a) (.t b),none,[]⟩
@[simp] abbrev cl(d f:Nat)(xs:List Nat):I:=⟨some d,.call f (xs.map .t),none,[]⟩
@[simp] abbrev rn(ops:List I)(keep:List Nat)(lasts:List Nat:=[]):PC := .region none ops keep lasts
end Go.Pm.F
end
