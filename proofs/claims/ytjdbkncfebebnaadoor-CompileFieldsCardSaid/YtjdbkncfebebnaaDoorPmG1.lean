/- Chapter 13's generator: choices, expressions. Chapter 13's generator: statements. -/
import Derived.Test.YtjdbkncfebebnaaDoorPmE3
import Derived.Test.YtjdbkncfebebnaaDoorPmTb14
import Derived.Test.YtjdbkncfebebnaaDoorPmW
set_option linter.unusedSimpArgs false
set_option linter.unusedVariables false
section SG1
namespace Go.Pm
open F
theorem around_b {n m : Int} (h1 : I64 n) (hm : 1 <= m) : Z base15 (.call 17 [.int n, .int m] []) = some (.ret (.int (around n m)) []) := by
 refine Z_call (pf := F17) rfl rfl ?_
 unfold around
 have hm0 : ¬ m = 0 := by omega
 by_cases h : n < 0
 · have w1 : IntKind.i64.wrap (n + 1) = n + 1 := wrap64 _ (by unfold I64 at h1; omega)
   have w2 : IntKind.i64.wrap (-(n + 1)) = -(n + 1) := wrap64 _ (by unfold I64 at h1; omega)
   simp [F17, h, hm0, w1, w2]
 · simp [F17, h, hm0]
def varG : List ByteArray := [⟨#[105]⟩, ⟨#[110]⟩, ⟨#[115, 117, 109]⟩, ⟨#[118, 51]⟩]
def varL : List ByteArray := varG ++ [⟨#[118]⟩]
def nameL : List ByteArray := [⟨#[115, 101, 108, 102]⟩, ⟨#[111, 116, 104, 101, 114]⟩, ⟨#[116, 105, 99, 107]⟩]
def storL : List ByteArray := [⟨#[120]⟩, ⟨#[121]⟩, ⟨#[118, 120]⟩, ⟨#[118, 121]⟩, ⟨#[97]⟩, ⟨#[98]⟩]
def fieldL : List ByteArray := storL ++ [⟨#[104, 105, 116]⟩, ⟨#[115, 116, 105, 108, 108]⟩]
def E.fine : E -> Prop
 | .int n => 0 <= n /\ n <= 2147483647
 | .bool n => n = 0 \/ n = 1
 | .var s => s ∈ varL
 | .name s => s ∈ nameL
 | .field _ s e => s ∈ fieldL /\ e.fine /\ e.ty = 1
 | .un _ neg e => e.fine /\ e.ty = if neg then 1 else 2
 | .bin _ o a b => a.fine /\ b.fine /\ a.ty = o.opd /\ b.ty = o.opd
def E.dp : E -> Nat
 | .field _ _ e => e.dp + 1
 | .un _ _ e => e.dp + 1
 | .bin _ _ a b => max a.dp b.dp + 1
 | _ => 0
theorem strL_at {l : List ByteArray} {p : Int} (h : 0 <= p /\ p < l.length) : ∃ s ∈ l, cutCells (strC l) p.toNat 1 = some [.lit (.string s)] :=
 ⟨_, List.getElem_mem (by omega : p.toNat < l.length), cut_strC l p.toNat (by omega)⟩
end Go.Pm
end SG1
section SG3
namespace Go.Pm
open F
def Ss.fine : Ss -> Prop
 | .nil => True
 | .assign _ s e r => (s ∈ varL /\ e.fine /\ e.ty = 1) /\ r.fine
 | .store _ s a b r => (s ∈ storL /\ a.fine /\ a.ty = 1 /\ b.fine /\ b.ty = 1) /\ r.fine
 | .effect _ a b r => (a.fine /\ a.ty = 1 /\ b.fine /\ b.ty = 1) /\ r.fine
 | .stop r => r.fine
 | .cond false _ c (.block _ x (.block _ y .nil)) r => (c.fine /\ c.ty = 2) /\ x.fine /\ y.fine /\ r.fine
 | .cond true _ c (.block _ x .nil) r => (c.fine /\ c.ty = 2) /\ x.fine /\ r.fine
 | _ => False
def Ss.dp : Ss -> Nat
 | .nil => 0
 | .assign _ _ _ r => r.dp
 | .store _ _ _ _ r => r.dp
 | .effect _ _ _ r => r.dp
 | .stop r => r.dp
 | .cond _ _ _ b r => max (b.dp + 1) r.dp
 | .block _ b r => max b.dp r.dp
def Ss.edp : Ss -> Nat
 | .nil => 0
 | .assign _ _ e r => max e.dp r.edp
 | .store _ _ a b r => max (max a.dp b.dp) r.edp
 | .effect _ a b r => max (max a.dp b.dp) r.edp
 | .stop r => r.edp
 | .cond _ _ c b r => max (max c.dp b.edp) r.edp
 | .block _ b r => max b.edp r.edp
end Go.Pm
end SG3
