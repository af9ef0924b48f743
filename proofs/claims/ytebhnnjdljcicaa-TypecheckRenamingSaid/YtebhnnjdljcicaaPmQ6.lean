/- Chapter 14: trees, statements, and what the code says of them. -/
import Derived.Test.YtebhnnjdljcicaaPmQ5
set_option linter.unusedSimpArgs false
set_option linter.unusedVariables false
namespace Go.Pm
open F
/-- The kids of a node: nil, or n nodes in a row. -/
def kd (f : Bool) : Nat → List D → D
  | 0, _ => .lit (.slice none 0 0)
  | n + 1, cs => .sl cs (n + 1) f
@[simp] theorem one_kd (f : Bool) (n : Nat) (cs : List D) : V.one (.dat (kd f n cs)) = true := by cases n <;> rfl
@[simp] theorem cells_kd (f : Bool) (n : Nat) (cs : List D) : V.cells (.dat (kd f n cs)) = [.dat (kd f n cs)] := by cases n <;> rfl
@[simp] theorem len_kd (σ : S) (f : Bool) (n : Nat) (cs : List D) : V.len σ .sl (.dat (kd f n cs)) = some n := by cases n <;> simp [kd, V.len]
@[simp] theorem kd_0 (f : Bool) (cs : List D) : kd f 0 cs = .lit (.slice none 0 0) := rfl
@[simp] theorem kd_s (f : Bool) (n : Nat) (cs : List D) : kd f (n + 1) cs = .sl cs (n + 1) f := rfl
/-- Rows of trees. -/
inductive Fo where
  | nil
  | cons (k n : Int) (s : ByteArray) (f : Bool) (kids rest : Fo)
def Fo.len : Fo → Nat
  | .nil => 0
  | .cons _ _ _ _ _ r => r.len + 1
def Fo.cells : Fo → List D
  | .nil => []
  | .cons k n s f ks r => .lit (.int .i64 k) :: .lit (.int .i64 n) :: .lit (.string s) :: kd f ks.len ks.cells :: r.cells
def Fo.app : Fo → Fo → Fo
  | .nil, b => b
  | .cons k n s f ks r, b => .cons k n s f ks (r.app b)
def Fo.size : Fo → Nat
  | .nil => 0
  | .cons _ _ _ _ ks r => ks.size + r.size + 1
@[simp] theorem fo_len_nil : Fo.len .nil = 0 := rfl
@[simp] theorem fo_len_cons (k n : Int) (s : ByteArray) (f : Bool) (ks r : Fo) : (Fo.cons k n s f ks r).len = r.len + 1 := rfl
@[simp] theorem fo_cells_nil : Fo.cells .nil = [] := rfl
@[simp] theorem fo_cells_cons (k n : Int) (s : ByteArray) (f : Bool) (ks r : Fo) : (Fo.cons k n s f ks r).cells = .lit (.int .i64 k) :: .lit (.int .i64 n) :: .lit (.string s) :: kd f ks.len ks.cells :: r.cells := rfl
@[simp] theorem fo_size_nil : Fo.size .nil = 0 := rfl
@[simp] theorem fo_size_cons (k n : Int) (s : ByteArray) (f : Bool) (ks r : Fo) : (Fo.cons k n s f ks r).size = ks.size + r.size + 1 := rfl
@[simp] theorem fo_app_nil (b : Fo) : Fo.app .nil b = b := rfl
@[simp] theorem fo_app_cons (k n : Int) (s : ByteArray) (f : Bool) (ks r b : Fo) : (Fo.cons k n s f ks r).app b = .cons k n s f ks (r.app b) := rfl
theorem fo_len_app (a b : Fo) : (a.app b).len = a.len + b.len := by induction a with
  | nil => simp
  | cons k n s f ks r _ ih => simp [ih]; omega
theorem fo_cells_app (a b : Fo) : (a.app b).cells = a.cells ++ b.cells := by induction a with
  | nil => simp
  | cons k n s f ks r _ ih => simp [ih]
theorem fo_size_app (a b : Fo) : (a.app b).size = a.size + b.size := by induction a with
  | nil => simp
  | cons k n s f ks r _ ih => simp [ih]; omega
theorem fo_cells_len (a : Fo) : a.cells.length = a.len * 4 := by induction a with
  | nil => simp
  | cons k n s f ks r _ ih => simp [ih]; omega
theorem fo_len_size (a : Fo) : a.len ≤ a.size := by induction a with
  | nil => simp
  | cons k n s f ks r _ ih => simp; omega
abbrev nd (k n : Int) (s : ByteArray) (f : Bool) (ks : Fo) : V := .dat (.agg [.lit (.int .i64 k), .lit (.int .i64 n), .lit (.string s), kd f ks.len ks.cells])
/-- The first tree of a row, or the zero node. -/
def Fo.hk : Fo → Int
  | .nil => 0
  | .cons k _ _ _ _ _ => k
def Fo.hn : Fo → Int
  | .nil => 0
  | .cons _ n _ _ _ _ => n
def Fo.hs : Fo → ByteArray
  | .nil => ⟨#[]⟩
  | .cons _ _ s _ _ _ => s
def Fo.hf : Fo → Bool
  | .nil => false
  | .cons _ _ _ f _ _ => f
def Fo.hks : Fo → Fo
  | .nil => .nil
  | .cons _ _ _ _ ks _ => ks
def Fo.tl : Fo → Fo
  | .nil => .nil
  | .cons _ _ _ _ _ r => r
abbrev Fo.hd (a : Fo) : V := nd a.hk a.hn a.hs a.hf a.hks
theorem kids_Z (k n : Int) (s : ByteArray) (f : Bool) (ks : Fo) : Z prog (.call 35 [nd k n s f ks] []) = some (.ret (.tup [ks.hd, ks.tl.hd]) []) := by
  refine Z_call (pf := F35) rfl ?_
  cases ks with
  | nil => simp [F35, V.len, Fo.hk, Fo.hn, Fo.hs, Fo.hf, Fo.hks, Fo.tl]
  | cons k1 n1 s1 f1 ks1 r => cases r with
    | nil => simp [F35, V.len, sliceAddr, Fo.hk, Fo.hn, Fo.hs, Fo.hf, Fo.hks, Fo.tl]
    | cons k2 n2 s2 f2 ks2 r =>
      have h : (1 : Int) < (r.len : Int) + 1 + 1 := by omega
      have h' : (0 : Int) < (r.len : Int) + 1 + 1 := by omega
      have h0 : 0 < r.len + 1 + 1 := by omega
      have h1 : 1 < r.len + 1 + 1 := by omega
      simp [F35, V.len, sliceAddr, Fo.hk, Fo.hn, Fo.hs, Fo.hf, Fo.hks, Fo.tl, h, h', h0, h1]
/-- An expression as a tree, ahead of others. -/
def E.flag : E → Bool
  | .field f _ _ => f | .un f _ _ => f | .bin f _ _ _ => f | _ => false
def E.fo : E → Fo → Fo
  | .int n, r => .cons 8 n ⟨#[]⟩ false .nil r
  | .bool n, r => .cons 9 n ⟨#[]⟩ false .nil r
  | .var s, r => .cons 10 0 s false .nil r
  | .name s, r => .cons 12 0 s false .nil r
  | .field f s e, r => .cons 11 0 s f (e.fo .nil) r
  | .un f neg e, r => .cons 13 0 (ustr neg) f (e.fo .nil) r
  | .bin f o a b, r => .cons 14 0 o.str f (a.fo (b.fo .nil)) r
def E.kfo : E → Fo
  | .field _ _ e => e.fo .nil | .un _ _ e => e.fo .nil | .bin _ _ a b => a.fo (b.fo .nil) | _ => .nil
theorem fo_eq (e : E) (r : Fo) : e.fo r = .cons e.kind e.num e.str e.flag e.kfo r := by cases e <;> rfl
theorem kids_eq (e : E) : e.kids = kd e.flag e.kfo.len e.kfo.cells := by
  induction e with
  | field f s e ih =>
    show (E.field f s e).kids = kd f (e.fo .nil).len (e.fo .nil).cells
    rw [fo_eq]
    simp only [kids_field, fo_len_cons, fo_len_nil, kd_s, fo_cells_cons, fo_cells_nil, ← ih]
  | un f neg e ih =>
    show (E.un f neg e).kids = kd f (e.fo .nil).len (e.fo .nil).cells
    rw [fo_eq]
    simp only [kids_un, fo_len_cons, fo_len_nil, kd_s, fo_cells_cons, fo_cells_nil, ← ih]
  | bin f o a b iha ihb =>
    show (E.bin f o a b).kids = kd f (a.fo (b.fo .nil)).len (a.fo (b.fo .nil)).cells
    rw [fo_eq, fo_eq]
    simp only [kids_bin, fo_len_cons, fo_len_nil, kd_s, fo_cells_cons, fo_cells_nil, ← iha, ← ihb]
  | _ => rfl
theorem node_eq (e : E) : e.node = nd e.kind e.num e.str e.flag e.kfo := by simp only [E.node, nd, kids_eq]
theorem fo_size (e : E) (r : Fo) : (e.fo r).size = e.size + r.size := by
  induction e generalizing r <;> simp only [E.fo, E.size, fo_size_cons, fo_size_nil, *] <;> omega
theorem hd_fo (e : E) (r : Fo) : (e.fo r).hd = e.node := by rw [fo_eq, node_eq]; rfl
@[simp] theorem tl_fo (e : E) (r : Fo) : (e.fo r).tl = r := by rw [fo_eq]; rfl
/-- Rows of statements. -/
inductive Ss where
  | nil
  | assign (f : Bool) (s : ByteArray) (e : E) (r : Ss)
  | store (f : Bool) (s : ByteArray) (a b : E) (r : Ss)
  | effect (f : Bool) (a b : E) (r : Ss)
  | stop (r : Ss)
  | cond (w : Bool) (f : Bool) (c : E) (b : Ss) (r : Ss)
  | block (f : Bool) (b : Ss) (r : Ss)
def hitS : ByteArray := ⟨#[104, 105, 116]⟩
def stillS : ByteArray := ⟨#[115, 116, 105, 108, 108]⟩
def Ss.well : Ss → Bool
  | .nil => true
  | .assign _ _ e r => decide (e.ty = 1) && r.well
  | .store _ s a b r => (!(eqS s hitS || eqS s stillS) && (decide (a.ty = 1) && decide (b.ty = 1))) && r.well
  | .effect _ a b r => (decide (a.ty = 1) && decide (b.ty = 1)) && r.well
  | .stop r => r.well
  | .cond _ _ c b r => (decide (c.ty = 2) && b.well) && r.well
  | .block _ b r => b.well && r.well
def Ss.ok : Ss → Prop
  | .nil => True
  | .assign _ s e r => s.size ≤ 100 ∧ e.ok ∧ r.ok
  | .store _ _ a b r => a.ok ∧ b.ok ∧ r.ok
  | .effect _ a b r => a.ok ∧ b.ok ∧ r.ok
  | .stop r => r.ok
  | .cond _ _ c b r => c.ok ∧ b.ok ∧ r.ok
  | .block _ b r => b.ok ∧ r.ok
def Ss.fo : Ss → Fo
  | .nil => .nil
  | .assign f s e r => .cons 1 0 s f (e.fo .nil) r.fo
  | .store f s a b r => .cons 2 0 s f (a.fo (b.fo .nil)) r.fo
  | .effect f a b r => .cons 5 0 ⟨#[]⟩ f (a.fo (b.fo .nil)) r.fo
  | .stop r => .cons 6 0 ⟨#[]⟩ false .nil r.fo
  | .cond w f c b r => .cons (if w then 4 else 3) 0 ⟨#[]⟩ f (c.fo b.fo) r.fo
  | .block f b r => .cons 7 0 ⟨#[]⟩ f b.fo r.fo
theorem Z_loop_cong {prog : Nat → Option PFun} {k : Nat} {b : PC} {fr fr' : Fr} {σ σ' : S} (h : gcF k fr σ = gcF k fr' σ') : Z prog (.loop k b fr σ) = Z prog (.loop k b fr' σ') := by
  rw [Z_loop_eq, Z_loop_eq, h]
theorem cut4 {cs r : List D} {o : Nat} {a b c d : D} (h : cs.drop o = a :: b :: c :: d :: r) : cutCells cs o 4 = some [a, b, c, d] := by
  unfold cutCells
  rw [h]
  simp
section
abbrev allFr (i : Nat) (N : Nat) (s : D) : Fr := [(2, .ptr 1 0), (7, .dat s), (8, .int N), (9, .int i)]
def allR (N : Nat) (s : D) (b : Bool) (g : Ob) : Option Res :=
  some (if b then .out (.exit 0) [(2, .ptr 1 0), (7, .dat s), (8, .int N), (9, .int N), (10, .bool false)] [.map tblE, .cells [.mp 0]]
    else .out .ret [(4, .bool false)] [.map tblE, .cells [.mp 0], g])
theorem all_end (N : Nat) (s : D) : ∃ g, Z prog (.loop 1 F37l0 (allFr N N s) [.map tblE, .cells [.mp 0]]) = allR N s true g := by
  refine ⟨.tip 0, ?_⟩
  rw [Z_loop_eq]
  simp [loopStep, run_F37l0, allR]
theorem all_step {k n : Int} {s : ByteArray} {f : Bool} {ks : Fo} {w wr : Bool} (hw : Z prog (.call 30 [.agg [.mp 0], nd k n s f ks] [.map tblE]) = some (.ret (.bool w) [.map tblE]))
    {i N : Nat} {cs r : List D} {fl : Bool} (hc : cs.drop (i * 4) = .lit (.int .i64 k) :: .lit (.int .i64 n) :: .lit (.string s) :: kd f ks.len ks.cells :: r) (hi : i < N) (hN : N < 2^40)
    (ih : w = true → ∃ g, Z prog (.loop 1 F37l0 (allFr (i + 1) N (.sl cs N fl)) [.map tblE, .cells [.mp 0]]) = allR N (.sl cs N fl) wr g) :
    ∃ g, Z prog (.loop 1 F37l0 (allFr i N (.sl cs N fl)) [.map tblE, .cells [.mp 0]]) = allR N (.sl cs N fl) (w && wr) g := by
  have h4 := cut4 hc
  have w1 := wrap64 ((i : Int) + 1) (by omega)
  have hi' : (i : Int) < N := by omega
  cases w with
  | true =>
    obtain ⟨g, hg⟩ := ih rfl
    refine ⟨g, ?_⟩
    rw [Z_loop_eq]
    rw [Bool.true_and, ← hg]
    simp [loopStep, run_F37l0, hi, hi', sliceAddr, h4, hw, w1]
    exact Z_loop_cong (by simp [allFr])
  | false =>
    refine ⟨.cells [.int k, .int n, .str s, .dat (kd f ks.len ks.cells)], ?_⟩
    rw [Z_loop_eq]
    simp [loopStep, run_F37l0, hi, hi', sliceAddr, h4, hw, w1, allR]
theorem all_of_loop {N : Nat} {cs : List D} {f : Bool} {b : Bool} (h : ∃ g, Z prog (.loop 1 F37l0 (allFr 0 N (.sl cs N f)) [.map tblE, .cells [.mp 0]]) = allR N (.sl cs N f) b g) :
    Z prog (.call 37 [.agg [.mp 0], .dat (.sl cs N f)] [.map tblE]) = some (.ret (.bool b) [.map tblE]) := by
  obtain ⟨g, hg⟩ := h
  refine Z_call (pf := F37) rfl ?_
  simp only [allFr, allR] at hg
  cases b <;> simp at hg <;> simp [F37, V.len, hg]
theorem all_nil : Z prog (.call 37 [.agg [.mp 0], .dat (.lit (.slice none 0 0))] [.map tblE]) = some (.ret (.bool true) [.map tblE]) := by
  obtain ⟨g, hg⟩ := all_end 0 (.lit (.slice none 0 0))
  refine Z_call (pf := F37) rfl ?_
  simp [allFr, allR] at hg
  simp [F37, V.len, hg]
end
end Go.Pm
