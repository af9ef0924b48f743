/- Chapter 15: the model of the reference: values of expressions. Chapter 15: the model's values of expressions, the reference's walk. -/
import Derived.Test.YtdnnjabacgpfdaaGreatDoorPmCm
import Derived.Test.YtdnnjabacgpfdaaGreatDoorPmTb14
set_option linter.unusedSimpArgs false
set_option linter.unusedVariables false
section SRa
namespace Go.Pm
open F Gr
theorem upZ {t : Task} {r : Res} (h : Z base15 t = some r) : Z prog15z t = some r := Z_sub sub_base15_prog15z h
def tr (b : Bool) : Int := if b then 1 else 0
def calcI (op a b : Int) : Int :=
 if op = 9 then (a + b).tmod 1000000
 else if op = 10 then (a - b).tmod 1000000
 else if op = 11 then (a.tmod 1000000 * b.tmod 1000000).tmod 1000000
 else if op = 12 then (if b = 0 then 0 else a.tdiv b)
 else if op = 14 then tr (decide (a < b))
 else if op = 15 then tr (decide (a <= b))
 else tr (decide (a = b))
abbrev Bd (n : Int) : Prop := -2147483648 <= n /\ n <= 2147483648
theorem tr_rng (b : Bool) : 0 <= tr b /\ tr b <= 1 := by unfold tr; split <;> omega
theorem tmod_bd (a : Int) {m : Int} (hm : 0 < m) : -m < a.tmod m /\ a.tmod m < m := ⟨Int.lt_tmod_of_pos a hm, Int.tmod_lt_of_pos a hm⟩
theorem tdiv_bd {a b : Int} (ha : Bd a) : Bd (a.tdiv b) := by
 have h1 : (a.tdiv b).natAbs <= a.natAbs := by rw [Int.natAbs_tdiv]; exact Nat.div_le_self _ _
 omega
theorem mul_bd {a b : Int} (ha : -1000000 < a /\ a < 1000000) (hb : -1000000 < b /\ b < 1000000) : -1000000000000 <= a * b /\ a * b <= 1000000000000 := by
 have h : (a * b).natAbs <= 1000000 * 1000000 := by
   rw [Int.natAbs_mul]; exact Nat.mul_le_mul (by omega) (by omega)
 omega
theorem calc_bd {op a b : Int} (ha : Bd a) (hb : Bd b) : Bd (calcI op a b) := by
 have t1 := fun x => tmod_bd x (m := 1000000) (by omega)
 have r := tr_rng
 unfold calcI
 repeat' split
 all_goals first
   | (have := t1 (a + b); omega)
   | (have := t1 (a - b); omega)
   | (have := t1 (a.tmod 1000000 * b.tmod 1000000); omega)
   | omega
   | exact tdiv_bd ha
   | (have := r (decide (a < b)); omega)
   | (have := r (decide (a <= b)); omega)
   | (have := r (decide (a = b)); omega)
theorem truth_Z (b : Bool) : Z prog15z (.call 216 [.bool b] []) = some (.ret (.int (tr b)) []) := by
 refine Z_call (pf := F216) rfl rfl ?_
 cases b <;> simp [F216, tr]
theorem calc_Z (op : Int) {a b : Int} (ha : Bd a) (hb : Bd b) : Z prog15z (.call 217 [.int op, .int a, .int b] []) = some (.ret (.int (calcI op a b)) []) := by
 refine Z_call (pf := F217) rfl rfl ?_
 have w1 := wrap64 (a + b) (by omega)
 have w2 := wrap64 (a - b) (by omega)
 have w3 := wrap64 (a.tmod 1000000 * b.tmod 1000000) (by have := mul_bd (tmod_bd a (m := 1000000) (by omega)) (tmod_bd b (m := 1000000) (by omega)); omega)
 have w4 := wrap64 (a.tdiv b) (by have := tdiv_bd (b := b) ha; omega)
 have t := truth_Z
 unfold calcI
 by_cases h9 : op = 9
 · simp [F217, h9, w1]
 by_cases h10 : op = 10
 · simp [F217, h10, w2]
 by_cases h11 : op = 11
 · simp [F217, h11, w3]
 by_cases h12 : op = 12
 · by_cases hz : b = 0
   · simp [F217, h12, hz]
   · simp [F217, h12, hz, w4]
 by_cases h14 : op = 14
 · simp [F217, h14, t]
 by_cases h15 : op = 15
 · simp [F217, h15, t]
 simp [F217, h9, h10, h11, h12, h14, h15, t]
def stL (ws : List Int) (lv : V) (n : Int) (b : Bool) : List V := ints ws ++ [lv, .int n, .bool b]
inductive Lg : List Int -> V -> S -> Prop
 | nil : Lg [] (.dat (.lit (.slice none 0 0))) []
 | own (l : List Int) (h : l ≠ []) : Lg l (.own 1 l.length 1) [.vec (ints l)]
@[simp] theorem stL_locs (ws : List Int) (lv : V) (n : Int) (b : Bool) : locsL (stL ws lv n b) = lv.locs := by
 have : ∀ l r, locsL (ints l ++ r) = locsL r := fun l r => by
   induction l with
   | nil => rfl
   | cons x l ih => simpa [ints] using ih
 rw [stL, this]; simp
@[simp] theorem stL_ren (r : Nat -> Nat) (ws : List Int) (lv : V) (n : Int) (b : Bool) : renL r (stL ws lv n b) = stL ws (lv.ren r) n b := by
 have : ∀ l q, renL r (ints l ++ q) = ints l ++ renL r q := fun l q => by
   induction l with
   | nil => rfl
   | cons x l ih => simpa [ints] using ih
 rw [stL, this]; simp [stL]
section
variable {ws : List Int} (h : ws.length = 48) (lv : V) (n : Int) (b : Bool)
include h
theorem stL_length : (stL ws lv n b).length = 51 := by simp [stL, h]
theorem stL_drop (k : Nat) : (stL ws lv n b).drop (48 + k) = [lv, .int n, .bool b].drop k := by
 have : 48 + k = (ints ws).length + k := by simp [h]
 rw [stL, this, List.drop_append]
 simp
theorem stL_take (k : Nat) : (stL ws lv n b).take (48 + k) = ints ws ++ [lv, .int n, .bool b].take k := by
 have : 48 + k = (ints ws).length + k := by simp [h]
 rw [stL, this, List.take_append, List.take_of_length_le (by simp)]
 simp
theorem cut48 : cutCells (stL ws lv n b) 48 1 = some [lv] := by
 unfold cutCells; rw [show 48 = 48 + 0 from rfl, stL_drop h]; simp
theorem cut49 : cutCells (stL ws lv n b) 49 1 = some [.int n] := by
 unfold cutCells; rw [show 49 = 48 + 1 from rfl, stL_drop h]; simp
theorem cut50 : cutCells (stL ws lv n b) 50 1 = some [.bool b] := by
 unfold cutCells; rw [show 50 = 48 + 2 from rfl, stL_drop h]; simp
theorem put48 (v : V) : (stL ws lv n b).take 48 ++ v :: (stL ws lv n b).drop 49 = stL ws v n b := by
 rw [show 48 = 48 + 0 from rfl, show 49 = 48 + 1 from rfl, stL_drop h, stL_take h]; simp [stL]
theorem put49 (m : Int) : (stL ws lv n b).take 49 ++ V.int m :: (stL ws lv n b).drop 50 = stL ws lv m b := by
 rw [show 49 = 48 + 1 from rfl, show 50 = 48 + 2 from rfl, stL_drop h, stL_take h]; simp [stL]
theorem put50 (c : Bool) : (stL ws lv n b).take 50 ++ V.bool c :: (stL ws lv n b).drop 51 = stL ws lv n c := by
 rw [show 50 = 48 + 2 from rfl, show 51 = 48 + 3 from rfl, stL_drop h, stL_take h]; simp [stL]
theorem cutW {i : Nat} (hi : i < 48) : cutCells (stL ws lv n b) i 1 = some [.int (getN ws i)] := by
 have hl : i < (ints ws).length := by simp [h, hi]
 have := cut1_ints' ws i (by omega)
 unfold cutCells at this ⊢
 rw [stL, List.drop_append_of_le_length (by omega), List.take_append_of_le_length (by simp; omega)]
 exact this
theorem putW {i : Nat} (hi : i < 48) (v : Int) : (stL ws lv n b).take i ++ V.int v :: (stL ws lv n b).drop (i + 1) = stL (ws.set i v) lv n b := by
 rw [stL, List.drop_append_of_le_length (by simp; omega), List.take_append_of_le_length (by simp; omega), stL, <- set_ints ws i v (by omega)]
 simp
end
end Go.Pm
end SRa
section SRb
namespace Go.Pm
open F Gr
def ldF (ws : List Int) (body field : Int) : Int := if 0 <= body /\ body <= 3 then getN ws (16 + (8 * body + field).toNat) else 0
def vE (vs : List ByteArray) (ws : List Int) : E -> Int
 | .int n => n
 | .bool n => n
 | .var s => getN ws (ixI vs s).toNat
 | .name s => if nameI s = 6 then 1 else if nameI s = 7 then 2 else 7
 | .field _ s e => ldF ws (vE vs ws e) (fieldI s)
 | .un _ neg e => if neg then -(vE vs ws e) else tr (decide (vE vs ws e = 0))
 | .bin _ .and a b => if vE vs ws a = 0 then 0 else vE vs ws b
 | .bin _ .or a b => if vE vs ws a = 0 then vE vs ws b else 1
 | .bin _ .gt a b => calcI 14 (vE vs ws b) (vE vs ws a)
 | .bin _ .ge a b => calcI 15 (vE vs ws b) (vE vs ws a)
 | .bin _ .ne a b => 1 - calcI 16 (vE vs ws a) (vE vs ws b)
 | .bin _ o a b => calcI (opI o) (vE vs ws a) (vE vs ws b)
def cE (vs : List ByteArray) (ws : List Int) : E -> Int
 | .field _ _ e => cE vs ws e + 1
 | .un _ _ e => cE vs ws e + 1
 | .bin _ .and a b => if vE vs ws a = 0 then cE vs ws a + 1 else cE vs ws a + cE vs ws b + 1
 | .bin _ .or a b => if vE vs ws a = 0 then cE vs ws a + cE vs ws b + 1 else cE vs ws a + 1
 | .bin _ _ a b => cE vs ws a + cE vs ws b + 1
 | _ => 1
theorem cE_rng (vs : List ByteArray) (ws : List Int) : ∀ e : E, 1 <= cE vs ws e /\ cE vs ws e <= e.size
 | .int _ | .bool _ | .var _ | .name _ => by simp [cE]
 | .field _ _ e => by have := cE_rng vs ws e; simp [cE]; omega
 | .un _ _ e => by have := cE_rng vs ws e; simp [cE]; omega
 | .bin _ o a b => by
   have := cE_rng vs ws a
   have := cE_rng vs ws b
   cases o <;> simp only [cE, size_bin] <;> (try split) <;> omega
theorem getN_bd {ws : List Int} (h : ∀ x ∈ ws, Bd x) (i : Nat) : Bd (getN ws i) := by
 by_cases hi : i < ws.length
 · exact h _ (getN_mem hi)
 · simp [getN, List.getD_eq_getElem?_getD, List.getElem?_eq_none (Nat.le_of_not_lt hi)]
   omega
theorem vE_bd {vs : List ByteArray} {ws : List Int} (h : ∀ x ∈ ws, Bd x) : ∀ e : E, e.fine -> Bd (vE vs ws e)
 | .int n, hf => by simp only [E.fine] at hf; simp only [vE]; omega
 | .bool n, hf => by simp only [E.fine] at hf; simp only [vE]; omega
 | .var s, _ => getN_bd h _
 | .name s, _ => by simp only [vE]; split <;> (try split) <;> omega
 | .field _ s e, hf => by simp only [vE, ldF]; split; exact getN_bd h _; omega
 | .un _ neg e, hf => by
   have := vE_bd (vs := vs) h e hf.1
   have t := tr_rng (decide (vE vs ws e = 0))
   simp only [vE]; split <;> omega
 | .bin _ o a b, hf => by
   have ha := vE_bd (vs := vs) h a hf.1
   have hb := vE_bd (vs := vs) h b hf.2.1
   have c := fun op => calc_bd (op := op) ha hb
   have c' := fun op => calc_bd (op := op) hb ha
   cases o <;> simp only [vE] <;> first
     | exact c _
     | exact c' _
     | (split <;> omega)
     | (have : calcI 16 (vE vs ws a) (vE vs ws b) = tr (decide (vE vs ws a = vE vs ws b)) := rfl
        rw [this]
        have := tr_rng (decide (vE vs ws a = vE vs ws b))
        omega)
section
variable {vs : List ByteArray} {ws : List Int} {l : List Int} {lv : V} {τ : S}
theorem load_Z (hw : ws.length = 48) (hL : Lg l lv τ) (n : Int) (c : Bool) {v f : Int} (hv : Bd v) (hf : 0 <= f /\ f <= 7) :
   Z prog15z (.call 215 [.ptr 0 0, .int v, .int f] (.cells (stL ws lv n c) :: τ)) = some (.ret (.int (ldF ws v f)) (.cells (stL ws lv n c) :: τ)) := by
 refine Z_call (pf := F215) rfl rfl ?_
 unfold ldF
 by_cases h : 0 <= v /\ v <= 3
 · have w1 := wrap64 (8 * v) (by omega)
   have w2 := wrap64 (8 * v + f) (by omega)
   have h1 : ¬ v < 0 := by omega
   have h2 : ¬ 3 < v := by omega
   have h3 : 0 <= 8 * v + f := by omega
   have h4 : 8 * v + f < 32 := by omega
   have cw := cutW hw lv n c (i := 16 + (8 * v + f).toNat) (by omega)
   rw [if_pos h]
   cases hL <;> simp [F215, h1, h2, h3, h4, w1, w2, cw, List.range_succ]
 · rw [if_neg h]
   by_cases h1 : v < 0
   · cases hL <;> simp [F215, h1, List.range_succ]
   · have h2 : 3 < v := by omega
     cases hL <;> simp [F215, h1, h2, List.range_succ]
def ValZ (vs : List ByteArray) (ws : List Int) (e : E) : Prop := ∀ (l : List Int) (lv : V) (τ : S) (n : Int) (c : Bool), Lg l lv τ -> -(2^60) + e.size <= n -> n <= 2^60 ->
 Z prog15z (.call 212 [.ptr 0 0, e.node, .dat (strD vs)] (.cells (stL ws lv n c) :: τ)) = some (.ret (.int (vE vs ws e)) (.cells (stL ws lv (n - cE vs ws e) c) :: τ))
theorem val_int (hw : ws.length = 48) (k : Int) : ValZ vs ws (.int k) := by
 intro l lv τ n c hL h1 h2
 simp only [size_int] at h1
 have w := wrap64 (n - 1) (by omega)
 have c49 := cut49 hw lv n c
 have p49 := put49 hw lv n c
 refine Z_call (pf := F212) rfl rfl ?_
 cases hL <;> simp [F212, E.kind, E.num, E.str, E.kids, w, c49, p49, stL_length hw, vE, cE, List.range_succ]
theorem val_bool (hw : ws.length = 48) (k : Int) : ValZ vs ws (.bool k) := by
 intro l lv τ n c hL h1 h2
 simp only [size_bool] at h1
 have w := wrap64 (n - 1) (by omega)
 have c49 := cut49 hw lv n c
 have p49 := put49 hw lv n c
 refine Z_call (pf := F212) rfl rfl ?_
 cases hL <;> simp [F212, E.kind, E.num, E.str, E.kids, w, c49, p49, stL_length hw, vE, cE, List.range_succ]
theorem val_var (hw : ws.length = 48) (hv : vs.length <= 16) {s : ByteArray} (hs : s ∈ vs) : ValZ vs ws (.var s) := by
 intro l lv τ n c hL h1 h2
 simp only [size_var] at h1
 have w := wrap64 (n - 1) (by omega)
 have c49 := cut49 hw lv n c
 have p49 := put49 hw lv n c
 have zi := upZ (index_Z (vs := vs) (by omega) s)
 have hi := ixI_mem hs
 have m1 : max (ixI vs s) 0 = ixI vs s := by omega
 have m2 : (ixI vs s).tmod 16 = ixI vs s := by rw [Int.tmod_eq_emod_of_nonneg hi.1]; omega
 have m3 : ¬ ixI vs s < 0 := by omega
 have m4 : ixI vs s < 16 := by omega
 have cw := fun n => cutW hw lv n c (i := (ixI vs s).toNat) (by omega)
 refine Z_call (pf := F212) rfl rfl ?_
 cases hL <;> simp [F212, E.kind, E.num, E.str, E.kids, w, c49, p49, stL_length hw, zi, maxI, lits, m1, m2, m3, m4, hi.1, cw, vE, cE, calm, alone, List.range_succ]
theorem val_name (hw : ws.length = 48) {s : ByteArray} : ValZ vs ws (.name s) := by
 intro l lv τ n c hL h1 h2
 simp only [size_name] at h1
 have w := wrap64 (n - 1) (by omega)
 have c49 := cut49 hw lv n c
 have p49 := put49 hw lv n c
 have zi := upZ (name_Z s)
 have hn : nameI s = 6 \/ nameI s = 7 \/ nameI s = 8 := by unfold nameI; split <;> (try split) <;> omega
 have w0 : IntKind.i64.wrap 0 = 0 := rfl
 have w1 : IntKind.i64.wrap 1 = 1 := rfl
 have w2 : IntKind.i64.wrap 2 = 2 := rfl
 refine Z_call (pf := F212) rfl rfl ?_
 rcases hn with hn | hn | hn <;> cases hL <;> simp [F212, E.kind, E.num, E.str, E.kids, w, c49, p49, stL_length hw, zi, hn, w0, w1, w2, sliceAddr, vE, cE, List.range_succ]
end
end Go.Pm
end SRb
