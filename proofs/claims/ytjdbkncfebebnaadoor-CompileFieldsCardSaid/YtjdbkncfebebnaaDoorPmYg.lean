/- The rule language in plain Lean: more steps change no result. No program in sight. The rule language in plain Lean: expressions written down, and read back. No program in sight. The rule language in plain Lean: statements and programs written down, and read back. No program in sight. The rule language in plain Lean: written tokens stand one behind the other; whole programs read back. No program in sight. The rule language in plain Lean: tokens with white space and comments between them. No program in sight. -/
import Derived.Test.YtjdbkncfebebnaaDoorPmYa
set_option linter.unusedSimpArgs false
set_option linter.unusedVariables false
section SYg
namespace Go.Pm
variable {eS eL eD : Nat} {f fi fb : Bool}
theorem exprP_mono1 : ∀ n : Nat,
   (∀ p lv ts x, exprP eS eL f n p lv ts = some x -> exprP eS eL f (n + 1) p lv ts = some x) /\
   (∀ p lv e ts x, loopP eS eL f n p lv e ts = some x -> loopP eS eL f (n + 1) p lv e ts = some x) /\
   (∀ lv ts x, indexP eS eL f n lv ts = some x -> indexP eS eL f (n + 1) lv ts = some x)
 | 0 => ⟨fun p lv ts x h => by simp [exprP] at h, fun p lv e ts x h => by simp [loopP] at h, fun lv ts x h => by simp [indexP] at h⟩
 | n + 1 => by
   obtain ⟨ihe, ihl, ihi⟩ := exprP_mono1 n
   refine ⟨fun p lv ts x h => ?_, fun p lv e ts x h => ?_, fun lv ts x h => ?_⟩
   · rw [exprP] at h ⊢
     split at h
     · rename_i c1
       rw [if_pos c1]
       cases ho : openP eS eL (ustr (p == 7)) (lv + 1) ts with
       | er i c => simp only [ho] at h ⊢; exact h
       | ok u r =>
         simp only [ho] at h ⊢
         cases hq : exprP eS eL f n p (lv + 1) r with
         | none => simp [hq] at h
         | some y => rw [ihe _ _ _ _ hq]; rw [hq] at h; exact h
     · rename_i c1
       rw [if_neg c1]
       split at h
       · rename_i c2
         rw [if_pos c2]
         cases hq : exprP eS eL f n (p + 1) lv ts with
         | none => simp [hq] at h
         | some y =>
           rw [ihe _ _ _ _ hq]; rw [hq] at h
           cases y with
           | er i c => exact h
           | ok e r => exact ihl _ _ _ _ _ h
       · rename_i c2
         rw [if_neg c2]
         cases hn : nx ts with
         | none => simp only [hn] at h ⊢; exact h
         | some s =>
           simp only [hn] at h ⊢
           split at h
           · rename_i c; rw [if_pos c]; exact h
           rename_i c; rw [if_neg c]
           split at h
           · rename_i c; rw [if_pos c]; exact h
           rename_i c; rw [if_neg c]
           split at h
           · rename_i c; rw [if_pos c]; exact h
           rename_i c; rw [if_neg c]
           split at h
           · rename_i c; rw [if_pos c]; exact h
           rename_i c; rw [if_neg c]
           split at h
           · rename_i c; rw [if_pos c]
             cases hq : indexP eS eL f n lv ts.tail with
             | none => simp [hq] at h
             | some y => rw [ihi _ _ _ hq]; rw [hq] at h; exact h
           rename_i c; rw [if_neg c]
           split at h
           · rename_i c; rw [if_pos c]; exact h
           rename_i c; rw [if_neg c]
           cases ho : openP eS eL (bs [40]) (lv + 1) ts with
           | er i c => simp only [ho] at h ⊢; exact h
           | ok u r =>
             simp only [ho] at h ⊢
             cases hq : exprP eS eL f n 1 (lv + 1) r with
             | none => simp [hq] at h
             | some y => rw [ihe _ _ _ _ hq]; rw [hq] at h; exact h
   · rw [loopP] at h ⊢
     cases hn : nx ts with
     | none => simp only [hn] at h ⊢; exact h
     | some s =>
       simp only [hn] at h ⊢
       cases ho : opAt p s with
       | none => simp only [ho] at h ⊢; exact h
       | some o =>
         simp only [ho] at h ⊢
         cases hq : exprP eS eL f n (p + 1) lv ts.tail with
         | none => simp [hq] at h
         | some y =>
           rw [ihe _ _ _ _ hq]; rw [hq] at h
           cases y with
           | er i c => exact h
           | ok e' r =>
             simp only at h ⊢
             split at h
             · rename_i c; rw [if_pos c]; exact h
             · rename_i c; rw [if_neg c]; exact ihl _ _ _ _ _ h
   · rw [indexP] at h ⊢
     cases ho : openP eS eL (bs [91]) (lv + 1) ts with
     | er i c => simp only [ho] at h ⊢; exact h
     | ok u r =>
       simp only [ho] at h ⊢
       cases hq : exprP eS eL f n 1 (lv + 1) r with
       | none => simp [hq] at h
       | some y => rw [ihe _ _ _ _ hq]; rw [hq] at h; exact h
theorem exprP_mono {n m p lv : Nat} {ts : List Tk} {x : Rz E} (h : exprP eS eL f n p lv ts = some x) (hm : n <= m) : exprP eS eL f m p lv ts = some x := by
 induction hm with
 | refl => exact h
 | step _ ih => exact (exprP_mono1 _).1 _ _ _ _ ih
theorem loopP_mono {n m p lv : Nat} {e : E} {ts : List Tk} {x : Rz E} (h : loopP eS eL f n p lv e ts = some x) (hm : n <= m) : loopP eS eL f m p lv e ts = some x := by
 induction hm with
 | refl => exact h
 | step _ ih => exact (exprP_mono1 _).2.1 _ _ _ _ _ ih
theorem indexP_mono {n m lv : Nat} {ts : List Tk} {x : Rz E} (h : indexP eS eL f n lv ts = some x) (hm : n <= m) : indexP eS eL f m lv ts = some x := by
 induction hm with
 | refl => exact h
 | step _ ih => exact (exprP_mono1 _).2.2 _ _ _ ih
theorem stmtP_mono1 : ∀ n : Nat,
   (∀ lv ts x, stmtP eS eL f fi fb n lv ts = some x -> stmtP eS eL f fi fb (n + 1) lv ts = some x) /\
   (∀ lv ts x, blockP eS eL f fi fb n lv ts = some x -> blockP eS eL f fi fb (n + 1) lv ts = some x) /\
   (∀ lv a ts x, stmtsP eS eL f fi fb n lv a ts = some x -> stmtsP eS eL f fi fb (n + 1) lv a ts = some x)
 | 0 => ⟨fun lv ts x h => by simp [stmtP] at h, fun lv ts x h => by simp [blockP] at h, fun lv a ts x h => by simp [stmtsP] at h⟩
 | n + 1 => by
   obtain ⟨ihs, ihb, ihl⟩ := stmtP_mono1 n
   refine ⟨fun lv ts x h => ?_, fun lv ts x h => ?_, fun lv a ts x h => ?_⟩
   · have second : ∀ (r : List Tk) (g : E -> Ss) y, (match exprP eS eL f n 1 lv r with
           | some (.ok b r2) => some (closedP eS (g b) r2)
           | some (.er i k) => some (.er i k)
           | none => none) = some y -> (match exprP eS eL f (n + 1) 1 lv r with
           | some (.ok b r2) => some (closedP eS (g b) r2)
           | some (.er i k) => some (.er i k)
           | none => none) = some y := fun r g y hy => by
         cases hq : exprP eS eL f n 1 lv r with
         | none => simp [hq] at hy
         | some z => rw [exprP_mono hq (Nat.le_succ n)]; rw [hq] at hy; exact hy
     rw [stmtP] at h ⊢
     cases hn : nx ts with
     | none => simp only [hn] at h ⊢; exact h
     | some s =>
       simp only [hn] at h ⊢
       split at h
       · rename_i c; rw [if_pos c]
         cases hq : exprP eS eL f n 1 lv ts.tail with
         | none => simp [hq] at h
         | some y =>
           rw [exprP_mono hq (Nat.le_succ n)]; rw [hq] at h
           cases y with
           | er i c => exact h
           | ok e r =>
             simp only at h ⊢
             cases hb : blockP eS eL f fi fb n (lv + 1) r with
             | none => simp [hb] at h
             | some z =>
               rw [ihb _ _ _ hb]; rw [hb] at h
               cases z with
               | er i c => exact h
               | ok b r1 =>
                 simp only at h ⊢
                 cases hn1 : nx r1 with
                 | none => simp only [hn1] at h ⊢; exact h
                 | some w =>
                   simp only [hn1] at h ⊢
                   split at h
                   · rename_i c'; rw [if_pos c']
                     cases hb2 : blockP eS eL f fi fb n (lv + 1) r1.tail with
                     | none => simp [hb2] at h
                     | some z2 => rw [ihb _ _ _ hb2]; rw [hb2] at h; exact h
                   · rename_i c'; rw [if_neg c']; exact h
       rename_i c; rw [if_neg c]
       split at h
       · rename_i c; rw [if_pos c]
         cases hq : exprP eS eL f n 1 lv ts.tail with
         | none => simp [hq] at h
         | some y =>
           rw [exprP_mono hq (Nat.le_succ n)]; rw [hq] at h
           cases y with
           | er i c => exact h
           | ok e r =>
             simp only at h ⊢
             cases hb : blockP eS eL f fi fb n (lv + 1) r with
             | none => simp [hb] at h
             | some z => rw [ihb _ _ _ hb]; rw [hb] at h; exact h
       rename_i c; rw [if_neg c]
       split at h
       · rename_i c; rw [if_pos c]
         cases hq : exprP eS eL f n 1 lv ts.tail with
         | none => simp [hq] at h
         | some y =>
           rw [exprP_mono hq (Nat.le_succ n)]; rw [hq] at h
           cases y with
           | er i c => exact h
           | ok e r =>
             simp only at h ⊢
             cases hx : expectP eS (bs [44]) r with
             | er i c => simp only [hx] at h ⊢; exact h
             | ok u r1 => simp only [hx] at h ⊢; exact second r1 (fun b => .effect f e b .nil) x h
       rename_i c; rw [if_neg c]
       split at h
       · rename_i c; rw [if_pos c]; exact h
       rename_i c; rw [if_neg c]
       split at h
       · rename_i c; rw [if_pos c]
         cases hq : indexP eS eL f n lv ts.tail with
         | none => simp [hq] at h
         | some y =>
           rw [indexP_mono hq (Nat.le_succ n)]; rw [hq] at h
           cases y with
           | er i c => exact h
           | ok e r =>
             simp only at h ⊢
             cases hx : expectP eS (bs [61]) r with
             | er i c => simp only [hx] at h ⊢; exact h
             | ok u r1 => simp only [hx] at h ⊢; exact second r1 (fun b => .store f s e b .nil) x h
       rename_i c; rw [if_neg c]
       split at h
       · rename_i c; rw [if_pos c]
         cases hx : expectP eS (bs [61]) ts.tail with
         | er i c => simp only [hx] at h ⊢; exact h
         | ok u r1 => simp only [hx] at h ⊢; exact second r1 (fun b => .assign f s b .nil) x h
       · rename_i c; rw [if_neg c]; exact h
   · rw [blockP] at h ⊢
     cases ho : openP eS eL (bs [123]) lv ts with
     | er i c => simp only [ho] at h ⊢; exact h
     | ok u r => simp only [ho] at h ⊢; exact ihl _ _ _ _ h
   · rw [stmtsP] at h ⊢
     cases hn : nx ts with
     | none => simp only [hn] at h ⊢; exact h
     | some s =>
       simp only [hn] at h ⊢
       split at h
       · rename_i c; rw [if_pos c]; exact h
       · rename_i c; rw [if_neg c]
         cases hq : stmtP eS eL f fi fb n lv ts with
         | none => simp [hq] at h
         | some y =>
           rw [ihs _ _ _ hq]; rw [hq] at h
           cases y with
           | er i c => exact h
           | ok b r => exact ihl _ _ _ _ h
theorem stmtP_mono {n m lv : Nat} {ts : List Tk} {x : Rz Ss} (h : stmtP eS eL f fi fb n lv ts = some x) (hm : n <= m) : stmtP eS eL f fi fb m lv ts = some x := by
 induction hm with
 | refl => exact h
 | step _ ih => exact (stmtP_mono1 _).1 _ _ _ ih
theorem blockP_mono {n m lv : Nat} {ts : List Tk} {x : Rz Ss} (h : blockP eS eL f fi fb n lv ts = some x) (hm : n <= m) : blockP eS eL f fi fb m lv ts = some x := by
 induction hm with
 | refl => exact h
 | step _ ih => exact (stmtP_mono1 _).2.1 _ _ _ ih
theorem stmtsP_mono {n m lv : Nat} {a : Ss} {ts : List Tk} {x : Rz Ss} (h : stmtsP eS eL f fi fb n lv a ts = some x) (hm : n <= m) : stmtsP eS eL f fi fb m lv a ts = some x := by
 induction hm with
 | refl => exact h
 | step _ ih => exact (stmtP_mono1 _).2.2 _ _ _ _ ih
theorem progP_mono1 : ∀ (n : Nat) h ts x, progP eS eL eD f fi fb n h ts = some x -> progP eS eL eD f fi fb (n + 1) h ts = some x
 | 0, h, ts, x, e => by simp [progP] at e
 | n + 1, h, ts, x, e => by
   rw [progP] at e ⊢
   cases hn : nx ts with
   | none => simp only [hn] at e ⊢; exact e
   | some s =>
     simp only [hn] at e ⊢
     split at e
     · rename_i c; rw [if_pos c]; exact e
     rename_i c; rw [if_neg c]
     cases hx : expectP eS (bs [111, 110]) ts with
     | er i c => simp only [hx] at e ⊢; exact e
     | ok u r =>
       simp only [hx] at e ⊢
       cases hn2 : nx r with
       | none => simp only [hn2] at e ⊢; exact e
       | some w =>
         simp only [hn2] at e ⊢
         cases hh : handlerP w with
         | none => simp only [hh] at e ⊢; exact e
         | some k =>
           simp only [hh] at e ⊢
           split at e
           · rename_i c; rw [if_pos c]; exact e
           rename_i c; rw [if_neg c]
           cases hb : blockP eS eL f fi fb n 1 r.tail with
           | none => simp [hb] at e
           | some y =>
             rw [blockP_mono hb (Nat.le_succ n)]; rw [hb] at e
             cases y with
             | er i c => exact e
             | ok b r1 => exact progP_mono1 n _ _ _ e
theorem progP_mono {n m : Nat} {h : Nat -> Option Ss} {ts : List Tk} {x : Rz (Nat -> Option Ss)} (e : progP eS eL eD f fi fb n h ts = some x) (hm : n <= m) : progP eS eL eD f fi fb m h ts = some x := by
 induction hm with
 | refl => exact e
 | step _ ih => exact progP_mono1 _ _ _ _ ih
end Go.Pm
end SYg
section SYh
namespace Go.Pm
def decF : Nat -> Nat -> List UInt8
 | 0, _ => []
 | k + 1, n => if n < 10 then [(48 + n).toUInt8] else decF k (n / 10) ++ [(48 + n % 10).toUInt8]
def decB (n : Nat) : List UInt8 := decF 20 n
theorem dig8 : ∀ d, d < 10 -> ((48 + d).toUInt8).toNat = 48 + d := by decide
theorem digV_app (l : List UInt8) (c : UInt8) : digV (l ++ [c]) = 10 * digV l + (c.toNat - 48) := by simp [digV]
theorem decF_spec : ∀ k n, n < 10 ^ k -> 1 <= k -> digV (decF k n) = n /\ (∀ b ∈ decF k n, isDig b = true) /\ ∃ c r, decF k n = c :: r
 | 0, n, _, h => by omega
 | k + 1, n, h, _ => by
   rw [decF]
   split
   · rename_i hn
     have h1 := dig8 n hn
     refine ⟨by simp only [digV, List.foldl_cons, List.foldl_nil, h1]; omega, fun b hb => ?_, _, _, rfl⟩
     rw [List.mem_singleton.1 hb]
     simp only [isDig, h1, Bool.and_eq_true, decide_eq_true_eq]
     omega
   · rename_i hn
     have h1 := dig8 (n % 10) (by omega)
     have hk : 1 <= k := by
       rcases k with _ | k
       · simp at h; omega
       · omega
     obtain ⟨i1, i2, c, r, i3⟩ := decF_spec k (n / 10) (by rw [Nat.pow_succ] at h; omega) hk
     refine ⟨by rw [digV_app, i1, h1]; omega, fun b hb => ?_, c, r ++ [(48 + n % 10).toUInt8], by rw [i3]; rfl⟩
     rcases List.mem_append.1 hb with hb | hb
     · exact i2 b hb
     · rw [List.mem_singleton.1 hb]
       simp only [isDig, h1, Bool.and_eq_true, decide_eq_true_eq]
       omega
theorem decB_spec {n : Nat} (h : n < 10 ^ 20) : digV (decB n) = n /\ (∀ b ∈ decB n, isDig b = true) /\ ∃ c r, decB n = c :: r := decF_spec 20 n h (by omega)
theorem decB_tg {n : Nat} (h : n <= 2147483647) : Tg (decB n) := by
 obtain ⟨h1, h2, c, r, h3⟩ := decB_spec (n := n) (by omega)
 rw [h3] at h1 h2 ⊢
 exact .inr (.inl ⟨c, r, rfl, h2 c (List.mem_cons_self ..), fun b hb => h2 b (List.mem_cons_of_mem _ hb), by omega⟩)
theorem decB_dig {n : Nat} (h : n <= 2147483647) : startsB isDig (bs (decB n)) = true := by
 obtain ⟨h1, h2, c, r, h3⟩ := decB_spec (n := n) (by omega)
 rw [startsB_eq, byl_bs, h3]
 rw [h3] at h2
 exact h2 c (List.mem_cons_self ..)
def trueS : ByteArray := bs [116, 114, 117, 101]
def falseS : ByteArray := bs [102, 97, 108, 115, 101]
def selfS : ByteArray := bs [115, 101, 108, 102]
def otherS : ByteArray := bs [111, 116, 104, 101, 114]
def tickS : ByteArray := bs [116, 105, 99, 107]
def Bop.prec : Bop -> Nat
 | .or => 1 | .and => 2 | .lt | .le | .gt | .ge | .eq | .ne => 4 | .add | .sub => 5 | .mul | .div => 6
def ulev (neg : Bool) : Nat := if neg then 7 else 3
def paren (b : Bool) (l : List ByteArray) : List ByteArray := if b then bs [40] :: (l ++ [bs [41]]) else l
def Bop.left (o : Bop) : Nat := if o.prec = 4 then 5 else o.prec
def E.tx (full : Bool) : E -> Nat -> List ByteArray
 | .int n, _ => [bs (decB n.toNat)]
 | .bool n, _ => [if n = 0 then falseS else trueS]
 | .var s, _ => [s]
 | .name s, _ => [s]
 | .field _ s e, _ => s :: bs [91] :: (e.tx full 1 ++ [bs [93]])
 | .un _ neg e, p => paren (full || decide (ulev neg < p)) (ustr neg :: e.tx full (ulev neg))
 | .bin _ o a b, p => paren (full || decide (o.prec < p)) (a.tx full o.left ++ o.str :: b.tx full (o.prec + 1))
def E.nest (full : Bool) : E -> Nat -> Nat
 | .field _ _ e, _ => e.nest full 1 + 1
 | .un _ neg e, p => e.nest full (ulev neg) + 1 + if (full || decide (ulev neg < p)) = true then 1 else 0
 | .bin _ o a b, p => max (a.nest full o.left) (b.nest full (o.prec + 1)) + if (full || decide (o.prec < p)) = true then 1 else 0
 | _, _ => 0
def E.good : E -> Prop
 | .int n => 0 <= n /\ n <= 2147483647
 | .bool n => n = 0 \/ n = 1
 | .var s => Tg (byl s) /\ startsB isLet s = true /\ s ∉ fieldNames /\ s ∉ wordNames
 | .name s => s = selfS \/ s = otherS \/ s = tickS
 | .field _ s e => s ∈ fieldNames /\ e.good
 | .un _ _ e => e.good
 | .bin _ _ a b => a.good /\ b.good
def E.fl (f : Bool) : E -> E
 | .int n => .int n
 | .bool n => .bool n
 | .var s => .var s
 | .name s => .name s
 | .field _ s e => .field f s (e.fl f)
 | .un _ neg e => .un f neg (e.fl f)
 | .bin _ o a b => .bin f o (a.fl f) (b.fl f)
theorem prec_cases (o : Bop) : (o.prec = 1 /\ o.left = 1) \/ (o.prec = 2 /\ o.left = 2) \/ (o.prec = 4 /\ o.left = 5) \/ (o.prec = 5 /\ o.left = 5) \/ (o.prec = 6 /\ o.left = 6) := by cases o <;> simp [Bop.prec, Bop.left]
def Hx : List ByteArray -> List Tk -> List Tk -> Prop
 | [], ts, r => ts = r
 | x :: l, ts, r => ∃ t q, ts = t :: q /\ t.s = x /\ t.bad = 0 /\ Hx l q r
theorem hx_app : ∀ {a b : List ByteArray} {ts r : List Tk}, Hx (a ++ b) ts r ↔ ∃ m, Hx a ts m /\ Hx b m r
 | [], b, ts, r => ⟨fun h => ⟨ts, rfl, h⟩, fun ⟨m, h1, h2⟩ => by cases h1; exact h2⟩
 | x :: a, b, ts, r => by
   simp only [List.cons_append, Hx]
   constructor
   · rintro ⟨t, q, h1, h2, h3, h4⟩
     obtain ⟨m, h5, h6⟩ := hx_app.1 h4
     exact ⟨m, ⟨t, q, h1, h2, h3, h5⟩, h6⟩
   · rintro ⟨m, ⟨t, q, h1, h2, h3, h5⟩, h6⟩
     exact ⟨t, q, h1, h2, h3, hx_app.2 ⟨m, h5, h6⟩⟩
theorem hx_nx {x : ByteArray} {l : List ByteArray} {ts r : List Tk} (h : Hx (x :: l) ts r) : nx ts = some x /\ Hx l ts.tail r := by
 obtain ⟨t, q, h1, h2, h3, h4⟩ := h
 subst h1
 simp [nx, h3, h2]
 exact h4
theorem hx_expect {eS : Nat} {x : ByteArray} {l : List ByteArray} {ts r : List Tk} (h : Hx (x :: l) ts r) : expectP eS x ts = .ok () ts.tail := by
 obtain ⟨t, q, h1, h2, h3, h4⟩ := h
 subst h1
 simp [expectP, h3, h2]
theorem hx_open {eS eL lv : Nat} {x : ByteArray} {l : List ByteArray} {ts r : List Tk} (h : Hx (x :: l) ts r) (hl : lv <= 20) : openP eS eL x lv ts = .ok () ts.tail := by
 rw [openP, if_neg (by omega)]
 exact hx_expect h
def Stops (p : Nat) (r : List Tk) : Prop := ∃ s, nx r = some s /\ ∀ q, p <= q -> opAt q s = none
theorem Stops.mono {p q : Nat} {r : List Tk} (h : Stops p r) (hq : p <= q) : Stops q r := by
 obtain ⟨s, h1, h2⟩ := h
 exact ⟨s, h1, fun k hk => h2 k (by omega)⟩
theorem opAt_str (o : Bop) : opAt o.prec o.str = some o := by cases o <;> rfl
theorem opAt_other (o : Bop) (q : Nat) (h : q ≠ o.prec) : opAt q o.str = none := by
 rcases q with _ | _ | _ | _ | _ | _ | _ | q
 all_goals first | rfl | skip
 all_goals cases o <;> first | rfl | exact absurd rfl h
theorem tx_head (full : Bool) : ∀ (e : E), e.good -> ∀ p, ∃ x l, e.tx full p = x :: l /\ (x = ustr false -> p <= 3) /\ (x = ustr true -> p <= 7)
 | .int n, h, p => by
   have hd := decB_dig (n := n.toNat) (by have := h.1; have := h.2; omega)
   refine ⟨_, _, rfl, fun hx => ?_, fun hx => ?_⟩
   all_goals
     rw [hx] at hd
     exact absurd hd (by decide)
 | .bool n, h, p => by
   refine ⟨_, _, rfl, fun hx => ?_, fun hx => ?_⟩
   all_goals split at hx <;> exact absurd hx (by decide)
 | .var s, h, p => by
   refine ⟨_, _, rfl, fun hx => ?_, fun hx => ?_⟩
   all_goals
     have := h.2.1
     rw [hx] at this
     exact absurd this (by decide)
 | .name s, h, p => by
   refine ⟨_, _, rfl, fun hx => ?_, fun hx => ?_⟩
   all_goals rcases h with rfl | rfl | rfl <;> exact absurd hx (by decide)
 | .field f s e, h, p => by
   refine ⟨_, _, rfl, fun hx => ?_, fun hx => ?_⟩
   all_goals
     have := h.1
     rw [hx] at this
     exact absurd this (by decide)
 | .un f neg e, h, p => by
   simp only [E.tx, paren]
   split
   · exact ⟨_, _, rfl, fun hx => absurd hx (by decide), fun hx => absurd hx (by decide)⟩
   · rename_i hc
     simp only [Bool.or_eq_true, not_or, decide_eq_true_eq, Nat.not_lt] at hc
     refine ⟨_, _, rfl, fun hx => ?_, fun hx => ?_⟩
     · cases neg with
       | true => exact absurd hx (by decide)
       | false => exact hc.2
     · cases neg with
       | true => exact hc.2
       | false => exact absurd hx (by decide)
 | .bin f o a b, h, p => by
   simp only [E.tx, paren]
   split
   · exact ⟨_, _, rfl, fun hx => absurd hx (by decide), fun hx => absurd hx (by decide)⟩
   · rename_i hc
     simp only [Bool.or_eq_true, not_or, decide_eq_true_eq, Nat.not_lt] at hc
     obtain ⟨x, l, h1, h2, h3⟩ := tx_head full a h.1 o.left
     refine ⟨x, l ++ o.str :: b.tx full (o.prec + 1), by rw [h1]; rfl, fun hx => ?_, fun hx => ?_⟩
     · have := h2 hx; have := hc.2
       rcases prec_cases o with h | h | h | h | h <;> omega
     · have := h3 hx; have := hc.2
       rcases prec_cases o with h | h | h | h | h <;> omega
section
variable {eS eL : Nat} {f : Bool}
theorem climb {n q lv : Nat} {ts r : List Tk} {e : E} (h : exprP eS eL f n q lv ts = some (.ok e r)) (hq : q <= 8) : ∀ (k p : Nat), p + k = q -> 1 <= p -> Stops p r ->
   (p <= 3 -> 3 < q -> nx ts ≠ some (ustr false)) -> (p <= 7 -> 7 < q -> nx ts ≠ some (ustr true)) -> ∃ m, exprP eS eL f m p lv ts = some (.ok e r)
 | 0, p, hp, h1, _, _, _ => ⟨n, by rw [show p = q by omega]; exact h⟩
 | k + 1, p, hp, h1, hs, h3, h7 => by
   obtain ⟨m, hm⟩ := climb h hq k (p + 1) (by omega) (by omega) (hs.mono (by omega)) (fun a b => h3 (by omega) b) (fun a b => h7 (by omega) b)
   refine ⟨m + 2, ?_⟩
   rw [exprP, if_neg, if_pos (by omega), exprP_mono hm (Nat.le_succ m)]
   · obtain ⟨s, hs1, hs2⟩ := hs
     simp only [loopP, hs1, hs2 p (Nat.le_refl p)]
   · rintro (⟨h8, h9⟩ | ⟨h8, h9⟩)
     · exact h3 (by omega) (by omega) h9
     · exact h7 (by omega) (by omega) h9
theorem stops_close (x : ByteArray) (hx : ∀ q, opAt q x = none) {p : Nat} {l : List ByteArray} {ts r : List Tk} (h : Hx (x :: l) ts r) : Stops p ts := ⟨x, (hx_nx h).1, fun q _ => hx q⟩
theorem opAt_none (x : ByteArray) (h : ∀ o : Bop, o.str ≠ x) (q : Nat) : opAt q x = none := by
 unfold opAt
 rw [List.find?_eq_none]
 intro o _
 simp [h o]
theorem in_paren {lv p : Nat} {ts r : List Tk} {e : E} {l : List ByteArray} (ho : Hx (bs [40] :: (l ++ [bs [41]])) ts r) (hl : lv + 1 <= 20)
   (hb : ∀ mid, Hx l ts.tail mid -> Stops 1 mid -> ∃ m, exprP eS eL f m 1 (lv + 1) ts.tail = some (.ok e mid)) (h1 : 1 <= p) (h8 : p <= 8) (hs : Stops p r) : ∃ n, exprP eS eL f n p lv ts = some (.ok e r) := by
 obtain ⟨hn, ht⟩ := hx_nx ho
 obtain ⟨mid, hm1, hm2⟩ := hx_app.1 ht
 have hst : Stops 1 mid := stops_close _ (opAt_none _ (by intro o; cases o <;> decide)) hm2
 obtain ⟨m, hm⟩ := hb mid hm1 hst
 have hx := hx_expect (eS := eS) hm2
 have hend : mid.tail = r := (hx_nx hm2).2
 have base : exprP eS eL f (m + 1) 8 lv ts = some (.ok e r) := by
   rw [exprP, if_neg (by rintro (⟨h, _⟩ | ⟨h, _⟩) <;> omega), if_neg (by omega), hn]
   simp only
   rw [if_neg (by decide), if_neg (by decide), if_neg (by decide), if_neg (by decide), if_neg (by decide), if_neg (by decide), hx_open ho hl]
   simp only [hm, hx, hend]
 exact climb base (by omega) (8 - p) p (by omega) h1 hs (fun _ _ => by rw [hn]; decide) (fun _ _ => by rw [hn]; decide)
theorem rb (full : Bool) : ∀ e : E, e.good ->
   (∀ p lv ts r, 1 <= p -> p <= 8 -> Hx (e.tx full p) ts r -> lv + e.nest full p <= 20 -> Stops p r -> ∃ n, exprP eS eL f n p lv ts = some (.ok (e.fl f) r)) /\
   (∀ q lv ts r, 1 <= q -> q <= 6 -> q ≠ 4 -> q ≠ 3 -> Hx (e.tx full q) ts r -> lv + e.nest full q <= 20 -> Stops (q + 1) r ->
     ∃ n e0 r0, exprP eS eL f n (q + 1) lv ts = some (.ok e0 r0) /\ ∀ m x, loopP eS eL f m q lv (e.fl f) r = some x -> ∃ m', loopP eS eL f m' q lv e0 r0 = some x) := by
 have prim : ∀ (e : E) (x : ByteArray) lv ts r, (∃ n, exprP eS eL f n 8 lv ts = some (.ok (e.fl f) r)) -> nx ts = some x -> x ≠ ustr false -> x ≠ ustr true ->
     (∀ p, 1 <= p -> p <= 8 -> Stops p r -> ∃ n, exprP eS eL f n p lv ts = some (.ok (e.fl f) r)) := fun e x lv ts r ⟨n, hn⟩ hx h1 h2 p hp1 hp8 hs =>
   climb hn (by omega) (8 - p) p (by omega) hp1 hs (fun _ _ h => h1 (by rw [hx] at h; exact Option.some.inj h)) (fun _ _ h => h2 (by rw [hx] at h; exact Option.some.inj h))
 -- an expression that reads back at q + 1 stands for itself
 have self : ∀ (e : E) q lv ts r, (∃ n, exprP eS eL f n (q + 1) lv ts = some (.ok (e.fl f) r)) -> ∃ n e0 r0, exprP eS eL f n (q + 1) lv ts = some (.ok e0 r0) /\ ∀ m x, loopP eS eL f m q lv (e.fl f) r = some x -> ∃ m', loopP eS eL f m' q lv e0 r0 = some x :=
   fun e q lv ts r ⟨n, hn⟩ => ⟨n, _, _, hn, fun m x h => ⟨m, h⟩⟩
 intro e
 induction e with
 | int n =>
   intro hg
   obtain ⟨g1, g2⟩ := hg
   have hd := decB_dig (n := n.toNat) (by omega)
   have A : ∀ p lv ts r, 1 <= p -> p <= 8 -> Hx ((E.int n).tx full p) ts r -> lv + (E.int n).nest full p <= 20 -> Stops p r -> ∃ k, exprP eS eL f k p lv ts = some (.ok ((E.int n).fl f) r) := fun p lv ts r h1 h8 hx _ hs => by
     obtain ⟨hn, ht⟩ := hx_nx hx
     cases ht
     have n1 : bs (decB n.toNat) ≠ ustr false := by intro h; rw [h] at hd; exact absurd hd (by decide)
     have n2 : bs (decB n.toNat) ≠ ustr true := by intro h; rw [h] at hd; exact absurd hd (by decide)
     refine prim (.int n) _ lv ts _ ⟨1, ?_⟩ hn n1 n2 p h1 h8 hs
     rw [exprP, if_neg (by rintro (⟨h, _⟩ | ⟨h, _⟩) <;> omega), if_neg (by omega), hn]
     simp only
     rw [if_pos hd, ByteArray.toList_eq]
     have := (decB_spec (n := n.toNat) (by omega)).1
     rw [show (bs (decB n.toNat)).data.toList = decB n.toNat from byl_bs _, this, show ((n.toNat : Nat) : Int) = n by omega]
     rfl
   exact ⟨A, fun q lv ts r h1 h6 _ _ hx hl hs => self _ q lv ts r (A (q + 1) lv ts r (by omega) (by omega) hx hl hs)⟩
 | bool n =>
   intro hg
   have A : ∀ p lv ts r, 1 <= p -> p <= 8 -> Hx ((E.bool n).tx full p) ts r -> lv + (E.bool n).nest full p <= 20 -> Stops p r -> ∃ k, exprP eS eL f k p lv ts = some (.ok ((E.bool n).fl f) r) := fun p lv ts r h1 h8 hx _ hs => by
     obtain ⟨hn, ht⟩ := hx_nx hx
     cases ht
     refine prim (.bool n) _ lv ts _ ⟨1, ?_⟩ hn (by split <;> decide) (by split <;> decide) p h1 h8 hs
     rw [exprP, if_neg (by rintro (⟨h, _⟩ | ⟨h, _⟩) <;> omega), if_neg (by omega), hn]
     rcases hg with rfl | rfl
     · simp only [if_true]
       rw [if_neg (by decide), if_neg (by decide), if_pos (by rfl)]; rfl
     · rw [if_neg (by decide)]
       simp only
       rw [if_neg (by decide), if_pos (by rfl)]; rfl
   exact ⟨A, fun q lv ts r h1 h6 _ _ hx hl hs => self _ q lv ts r (A (q + 1) lv ts r (by omega) (by omega) hx hl hs)⟩
 | var s =>
   intro hg
   obtain ⟨g1, g2, g3, g4⟩ := hg
   have A : ∀ p lv ts r, 1 <= p -> p <= 8 -> Hx ((E.var s).tx full p) ts r -> lv + (E.var s).nest full p <= 20 -> Stops p r -> ∃ k, exprP eS eL f k p lv ts = some (.ok ((E.var s).fl f) r) := fun p lv ts r h1 h8 hx _ hs => by
     obtain ⟨hn, ht⟩ := hx_nx hx
     cases ht
     have n1 : s ≠ ustr false := by rintro rfl; exact absurd g2 (by decide)
     have n2 : s ≠ ustr true := by rintro rfl; exact absurd g2 (by decide)
     refine prim (.var s) _ lv ts _ ⟨1, ?_⟩ hn n1 n2 p h1 h8 hs
     have nd : ¬ startsB isDig s = true := by
       rw [startsB_eq] at g2 ⊢
       cases hh : (byl s).head? with
       | none => simp
       | some c =>
         rw [hh] at g2
         simp only [isDig, isLet, Bool.and_eq_true, decide_eq_true_eq] at g2 ⊢
         omega
     have w : ∀ x ∈ wordNames, s ≠ x := fun x hx he => g4 (he ▸ hx)
     rw [exprP, if_neg (by rintro (⟨h, _⟩ | ⟨h, _⟩) <;> omega), if_neg (by omega), hn]
     simp only
     rw [if_neg nd, if_neg (w _ (by decide)), if_neg (w _ (by decide)), if_neg (by
       rintro (h | h | h)
       · exact w _ (by decide) h
       · exact w _ (by decide) h
       · exact w _ (by decide) h), if_neg g3, if_pos ⟨g2, g4⟩]
     rfl
   exact ⟨A, fun q lv ts r h1 h6 _ _ hx hl hs => self _ q lv ts r (A (q + 1) lv ts r (by omega) (by omega) hx hl hs)⟩
 | name s =>
   intro hg
   have A : ∀ p lv ts r, 1 <= p -> p <= 8 -> Hx ((E.name s).tx full p) ts r -> lv + (E.name s).nest full p <= 20 -> Stops p r -> ∃ k, exprP eS eL f k p lv ts = some (.ok ((E.name s).fl f) r) := fun p lv ts r h1 h8 hx _ hs => by
     obtain ⟨hn, ht⟩ := hx_nx hx
     cases ht
     refine prim (.name s) _ lv ts _ ⟨1, ?_⟩ hn (by rcases hg with rfl | rfl | rfl <;> decide) (by rcases hg with rfl | rfl | rfl <;> decide) p h1 h8 hs
     rw [exprP, if_neg (by rintro (⟨h, _⟩ | ⟨h, _⟩) <;> omega), if_neg (by omega), hn]
     rcases hg with rfl | rfl | rfl <;> simp only <;> rw [if_neg (by decide), if_neg (by decide), if_neg (by decide), if_pos (by decide)] <;> rfl
   exact ⟨A, fun q lv ts r h1 h6 _ _ hx hl hs => self _ q lv ts r (A (q + 1) lv ts r (by omega) (by omega) hx hl hs)⟩
 | field g s e ih =>
   intro hg
   obtain ⟨g1, g2⟩ := hg
   have ihA := (ih g2).1
   have A : ∀ p lv ts r, 1 <= p -> p <= 8 -> Hx ((E.field g s e).tx full p) ts r -> lv + (E.field g s e).nest full p <= 20 -> Stops p r -> ∃ k, exprP eS eL f k p lv ts = some (.ok ((E.field g s e).fl f) r) := fun p lv ts r h1 h8 hx hl hs => by
     obtain ⟨hn, ht⟩ := hx_nx hx
     obtain ⟨hn2, ht2⟩ := hx_nx ht
     obtain ⟨mid, hm1, hm2⟩ := hx_app.1 ht2
     simp only [E.nest] at hl
     have hst : Stops 1 mid := stops_close _ (opAt_none _ (by intro o; cases o <;> decide)) hm2
     obtain ⟨k, hk⟩ := ihA 1 (lv + 1) _ mid (by omega) (by omega) hm1 (by omega) hst
     have hx2 := hx_expect (eS := eS) hm2
     have hend : mid.tail = r := (hx_nx hm2).2
     have hi : indexP eS eL f (k + 1) lv ts.tail = some (.ok (e.fl f) r) := by
       rw [indexP, hx_open ht (by omega)]
       simp only [hk, hx2, hend]
     have hs' : ∀ x : ByteArray, x ∉ fieldNames -> s ≠ x := fun x hx he => hx (he ▸ g1)
     refine prim (.field g s e) _ lv ts _ ⟨k + 2, ?_⟩ hn (hs' _ (by decide)) (hs' _ (by decide)) p h1 h8 hs
     have nd : ¬ startsB isDig s = true := by
       simp only [fieldNames, List.mem_cons, List.not_mem_nil, or_false] at g1
       rcases g1 with h | h | h | h | h | h | h | h <;> rw [h] <;> decide
     rw [exprP, if_neg (by rintro (⟨h, _⟩ | ⟨h, _⟩) <;> omega), if_neg (by omega), hn]
     simp only
     rw [if_neg nd, if_neg (hs' _ (by decide)), if_neg (hs' _ (by decide)), if_neg (by
       rintro (h | h | h)
       · exact hs' _ (by decide) h
       · exact hs' _ (by decide) h
       · exact hs' _ (by decide) h), if_pos g1, hi]
     rfl
   exact ⟨A, fun q lv ts r h1 h6 _ _ hx hl hs => self _ q lv ts r (A (q + 1) lv ts r (by omega) (by omega) hx hl hs)⟩
 | un g neg e ih =>
   intro hg
   have ihA := (ih hg).1
   -- without parentheses
   have bare : ∀ lv ts r, Hx (ustr neg :: e.tx full (ulev neg)) ts r -> lv + e.nest full (ulev neg) + 1 <= 20 -> ∀ p, 1 <= p -> p <= ulev neg -> Stops p r -> ∃ k, exprP eS eL f k p lv ts = some (.ok ((E.un g neg e).fl f) r) := fun lv ts r hx hl p h1 hp hs => by
     obtain ⟨hn, ht⟩ := hx_nx hx
     obtain ⟨k, hk⟩ := ihA (ulev neg) (lv + 1) _ r (by cases neg <;> decide) (by cases neg <;> decide) ht (by omega) (hs.mono hp)
     have base : exprP eS eL f (k + 1) (ulev neg) lv ts = some (.ok ((E.un g neg e).fl f) r) := by
       rw [exprP]
       cases neg with
       | false =>
         rw [if_pos (.inl ⟨rfl, hn⟩)]
         simp only [ulev, Bool.false_eq_true, if_false] at hk ⊢
         rw [show ustr ((3 : Nat) == 7) = ustr false from rfl, hx_open hx (by omega)]
         simp only [hk]
         rfl
       | true =>
         rw [if_pos (.inr ⟨rfl, hn⟩)]
         simp only [ulev, if_true] at hk ⊢
         rw [show ustr ((7 : Nat) == 7) = ustr true from rfl, hx_open hx (by omega)]
         simp only [hk]
         rfl
     refine climb base (by cases neg <;> decide) (ulev neg - p) p (by omega) h1 hs (fun a b => ?_) (fun a b => ?_)
     · cases neg with
       | false => exact absurd b (by decide)
       | true => rw [hn]; decide
     · cases neg <;> exact absurd b (by decide)
   have A : ∀ p lv ts r, 1 <= p -> p <= 8 -> Hx ((E.un g neg e).tx full p) ts r -> lv + (E.un g neg e).nest full p <= 20 -> Stops p r -> ∃ k, exprP eS eL f k p lv ts = some (.ok ((E.un g neg e).fl f) r) := fun p lv ts r h1 h8 hx hl hs => by
     simp only [E.tx, E.nest, paren] at hx hl
     by_cases c : (full || decide (ulev neg < p)) = true
     · rw [if_pos c] at hx hl
       exact in_paren hx (by omega) (fun mid hm hst => bare (lv + 1) _ mid hm (by omega) 1 (by omega) (by cases neg <;> decide) hst) h1 h8 hs
     · rw [if_neg c] at hx hl
       simp only [Bool.or_eq_true, not_or, decide_eq_true_eq, Nat.not_lt] at c
       exact bare lv ts r hx (by omega) p h1 c.2 hs
   refine ⟨A, fun q lv ts r h1 h6 h4 h3 hx hl hs => self _ q lv ts r (A (q + 1) lv ts r (by omega) (by omega) ?_ ?_ hs)⟩
   · have : (decide (ulev neg < q + 1)) = decide (ulev neg < q) := by
       rw [decide_eq_decide]; cases neg <;> simp only [ulev] <;> constructor <;> intro h <;> simp at h ⊢ <;> omega
     simp only [E.tx, this] at hx ⊢
     exact hx
   · have : (decide (ulev neg < q + 1)) = decide (ulev neg < q) := by
       rw [decide_eq_decide]; cases neg <;> simp only [ulev] <;> constructor <;> intro h <;> simp at h ⊢ <;> omega
     simp only [E.nest, this] at hl ⊢
     exact hl
 | bin g o a b iha ihb =>
   intro hg
   obtain ⟨aA, aB⟩ := iha hg.1
   obtain ⟨bA, -⟩ := ihb hg.2
   have hp := prec_cases o
   -- the operand and the loop behind it
   have loop : ∀ lv ts r, Hx (a.tx full o.left ++ o.str :: b.tx full (o.prec + 1)) ts r -> lv + max (a.nest full o.left) (b.nest full (o.prec + 1)) <= 20 -> Stops (o.prec + 1) r -> 
       ∃ n e0 r0, exprP eS eL f n (o.prec + 1) lv ts = some (.ok e0 r0) /\ (∀ m x, (if o.prec = 4 then some (.ok ((E.bin g o a b).fl f) r) else loopP eS eL f m o.prec lv ((E.bin g o a b).fl f) r) = some x -> ∃ m', loopP eS eL f m' o.prec lv e0 r0 = some x) := fun lv ts r hx hl hs => by
     obtain ⟨mid, hm1, hm2⟩ := hx_app.1 hx
     obtain ⟨hn, ht⟩ := hx_nx hm2
     have hst : Stops (o.prec + 1) mid := ⟨_, hn, fun q hq => opAt_other o q (by omega)⟩
     obtain ⟨k, hk⟩ := bA (o.prec + 1) lv _ r (by omega) (by omega) ht (by omega) hs
     have fin : ∀ m x, (if o.prec = 4 then some (.ok ((E.bin g o a b).fl f) r) else loopP eS eL f m o.prec lv ((E.bin g o a b).fl f) r) = some x -> ∃ m', loopP eS eL f m' o.prec lv (a.fl f) mid = some x := fun m x h => by
       refine ⟨max k m + 1, ?_⟩
       rw [loopP, hn]
       simp only [opAt_str]
       rw [exprP_mono hk (Nat.le_max_left k m)]
       simp only
       by_cases c : o.prec = 4
       · rw [if_pos c] at h ⊢; exact h
       · rw [if_neg c] at h ⊢; exact loopP_mono h (Nat.le_max_right k m)
     by_cases c : o.prec = 4
     · have hleft : o.left = o.prec + 1 := by omega
       obtain ⟨n, hn'⟩ := aA (o.prec + 1) lv ts mid (by omega) (by omega) (hleft ▸ hm1) (by rw [<- hleft]; omega) hst
       exact ⟨n, _, _, hn', fin⟩
     · have hleft : o.left = o.prec := by omega
       rw [hleft] at hm1 hl
       obtain ⟨n, e0, r0, h1, h2⟩ := aB o.prec lv ts mid (by omega) (by omega) c (by omega) hm1 (by omega) hst
       refine ⟨n, e0, r0, h1, fun m x h => ?_⟩
       obtain ⟨m', hm'⟩ := fin m x h
       exact h2 m' x hm'
   have bare : ∀ lv ts r, Hx (a.tx full o.left ++ o.str :: b.tx full (o.prec + 1)) ts r -> lv + max (a.nest full o.left) (b.nest full (o.prec + 1)) <= 20 -> ∀ p, 1 <= p -> p <= o.prec -> Stops p r -> ∃ k, exprP eS eL f k p lv ts = some (.ok ((E.bin g o a b).fl f) r) := fun lv ts r hx hl p h1 hpo hs => by
     obtain ⟨n, e0, r0, h2, h3⟩ := loop lv ts r hx hl (hs.mono (by omega))
     have hend : loopP eS eL f 1 o.prec lv ((E.bin g o a b).fl f) r = some (.ok ((E.bin g o a b).fl f) r) := by
       obtain ⟨s, hs1, hs2⟩ := hs
       simp only [loopP, hs1, hs2 o.prec hpo]
     obtain ⟨m', hm'⟩ := h3 1 _ (by split <;> first | rfl | exact hend)
     obtain ⟨x, l, q1, q2, q3⟩ := tx_head full a hg.1 o.left
     have hnx : nx ts = some x := by
       rw [q1] at hx
       exact (hx_nx hx).1
     have base : exprP eS eL f (max n m' + 1) o.prec lv ts = some (.ok ((E.bin g o a b).fl f) r) := by
       rw [exprP, if_neg (by rintro (⟨h, _⟩ | ⟨h, _⟩) <;> omega), if_pos (by omega), exprP_mono h2 (Nat.le_max_left n m')]
       exact loopP_mono hm' (Nat.le_max_right n m')
     refine climb base (by omega) (o.prec - p) p (by omega) h1 hs (fun c1 c2 h => ?_) (fun c1 c2 => by omega)
     have := q2 (Option.some.inj (hnx.symm.trans h))
     omega
   have A : ∀ p lv ts r, 1 <= p -> p <= 8 -> Hx ((E.bin g o a b).tx full p) ts r -> lv + (E.bin g o a b).nest full p <= 20 -> Stops p r -> ∃ k, exprP eS eL f k p lv ts = some (.ok ((E.bin g o a b).fl f) r) := fun p lv ts r h1 h8 hx hl hs => by
     simp only [E.tx, E.nest, paren] at hx hl
     by_cases c : (full || decide (o.prec < p)) = true
     · rw [if_pos c] at hx hl
       exact in_paren hx (by omega) (fun mid hm hst => bare (lv + 1) _ mid hm (by omega) 1 (by omega) (by omega) hst) h1 h8 hs
     · rw [if_neg c] at hx hl
       simp only [Bool.or_eq_true, not_or, decide_eq_true_eq, Nat.not_lt] at c
       exact bare lv ts r hx (by omega) p h1 c.2 hs
   refine ⟨A, fun q lv ts r h1 h6 h4 h3 hx hl hs => ?_⟩
   by_cases c : full = false /\ o.prec = q
   · obtain ⟨c1, rfl⟩ := c
     have hf : ¬ (full || decide (o.prec < o.prec)) = true := by simp [c1]
     simp only [E.tx, E.nest, paren, if_neg hf] at hx hl
     obtain ⟨n, e0, r0, h5, h7⟩ := loop lv ts r hx (by omega) hs
     exact ⟨n, e0, r0, h5, fun m x h => h7 m x (by rw [if_neg h4]; exact h)⟩
   · have hd : (full || decide (o.prec < q + 1)) = (full || decide (o.prec < q)) := by
       cases full with
       | true => rfl
       | false =>
         have : o.prec ≠ q := fun h => c ⟨rfl, h⟩
         simp only [Bool.false_or, decide_eq_decide]
         omega
     refine self _ q lv ts r (A (q + 1) lv ts r (by omega) (by omega) ?_ ?_ hs)
     · simp only [E.tx, hd] at hx ⊢
       exact hx
     · simp only [E.nest, hd] at hl ⊢
       exact hl
end
end Go.Pm
end SYh
section SYi
namespace Go.Pm
def ifS : ByteArray := bs [105, 102]
def elseS : ByteArray := bs [101, 108, 115, 101]
def whileS : ByteArray := bs [119, 104, 105, 108, 101]
def effectS : ByteArray := bs [101, 102, 102, 101, 99, 116]
def stopS : ByteArray := bs [115, 116, 111, 112]
def onS : ByteArray := bs [111, 110]
def elseB : Ss -> Bool
 | .block _ .nil _ => false
 | .block _ _ _ => true
 | _ => false
def Ss.tx : Ss -> List ByteArray
 | .nil => []
 | .assign _ s e r => s :: bs [61] :: (e.tx false 1 ++ (bs [59] :: r.tx))
 | .store _ s a b r => s :: bs [91] :: (a.tx false 1 ++ (bs [93] :: bs [61] :: (b.tx false 1 ++ (bs [59] :: r.tx))))
 | .effect _ a b r => effectS :: (a.tx false 1 ++ (bs [44] :: (b.tx false 1 ++ (bs [59] :: r.tx))))
 | .stop r => stopS :: bs [59] :: r.tx
 | .cond w _ c b r => (if w then whileS else ifS) :: (c.tx false 1 ++ (b.tx ++ r.tx))
 | .block _ b r => bs [123] :: (b.tx ++ (bs [125] :: (if elseB r then elseS :: r.tx else [])))
def nameG (s : ByteArray) : Prop := Tg (byl s) /\ startsB isLet s = true /\ s ∉ fieldNames /\ s ∉ wordNames
def Ss.good : Ss -> Option Nat -> Prop
 | .nil, m => m = none \/ m = some 0
 | .assign _ s e r, m => m = none /\ nameG s /\ e.good /\ r.good none
 | .store _ s a b r, m => m = none /\ s ∈ fieldNames /\ a.good /\ b.good /\ r.good none
 | .effect _ a b r, m => m = none /\ a.good /\ b.good /\ r.good none
 | .stop r, m => m = none /\ r.good none
 | .cond w _ c b r, m => m = none /\ c.good /\ b.good (some (if w then 1 else 2)) /\ r.good none
 | .block _ b r, m => ∃ n, m = some (n + 1) /\ b.good none /\ r.good (some n)
def Ss.nest : Ss -> Nat
 | .nil => 0
 | .assign _ _ e r => max (e.nest false 1) r.nest
 | .store _ _ a b r => max (a.nest false 1 + 1) (max (b.nest false 1) r.nest)
 | .effect _ a b r => max (a.nest false 1) (max (b.nest false 1) r.nest)
 | .stop r => r.nest
 | .cond _ _ c b r => max (c.nest false 1) (max (b.nest + 1) r.nest)
 | .block _ b r => max b.nest r.nest
def Ss.fl (f fi fb : Bool) : Ss -> Ss
 | .nil => .nil
 | .assign _ s e r => .assign f s (e.fl f) (r.fl f fi fb)
 | .store _ s a b r => .store f s (a.fl f) (b.fl f) (r.fl f fi fb)
 | .effect _ a b r => .effect f (a.fl f) (b.fl f) (r.fl f fi fb)
 | .stop r => .stop (r.fl f fi fb)
 | .cond w _ c b r => .cond w (if w then f else fi) (c.fl f) (b.fl f fi fb) (r.fl f fi fb)
 | .block _ b r => .block fb (b.fl f fi fb) (r.fl f fi fb)
theorem ss_app_nil (a : Ss) : a.app .nil = a := by induction a <;> simp_all [Ss.app]
theorem ss_app_assoc (a b c : Ss) : (a.app b).app c = a.app (b.app c) := by induction a <;> simp_all [Ss.app]
theorem name_ne {s x : ByteArray} (h : nameG s) (hx : x ∈ fieldNames \/ x ∈ wordNames \/ startsB isLet x = false) : s ≠ x := by
 rintro rfl
 rcases hx with hx | hx | hx
 · exact h.2.2.1 hx
 · exact h.2.2.2 hx
 · rw [h.2.1] at hx; cases hx
theorem field_ne {s x : ByteArray} (h : s ∈ fieldNames) (hx : x ∉ fieldNames) : s ≠ x := fun e => hx (e ▸ h)
theorem ss_head : ∀ (s : Ss), s.good none -> ∃ x l, s.tx ++ [bs [125]] = x :: l /\ x ≠ elseS /\ (s ≠ .nil -> x ≠ bs [125])
 | .nil, _ => ⟨_, _, rfl, by decide, fun h => absurd rfl h⟩
 | .assign f s e r, h => ⟨_, _, rfl, name_ne h.2.1 (.inr (.inl (by decide))), fun _ => name_ne h.2.1 (.inr (.inr (by decide)))⟩
 | .store f s a b r, h => ⟨_, _, rfl, field_ne h.2.1 (by decide), fun _ => field_ne h.2.1 (by decide)⟩
 | .effect f a b r, h => ⟨_, _, rfl, by decide, fun _ => by decide⟩
 | .stop r, h => ⟨_, _, rfl, by decide, fun _ => by decide⟩
 | .cond w f c b r, h => by
   refine ⟨_, _, rfl, ?_, fun _ => ?_⟩ <;> cases w <;> decide
 | .block f b r, h => by obtain ⟨n, hn, _⟩ := h; cases hn
section
variable {eS eL : Nat} {f fi fb : Bool}
def RowP (eS eL : Nat) (f fi fb : Bool) : Ss -> Prop
 | .block _ b r => (∀ lv ts q, Hx (bs [123] :: (b.tx ++ [bs [125]])) ts q -> lv + b.nest <= 20 -> ∃ n, blockP eS eL f fi fb n lv ts = some (.ok (b.fl f fi fb) q)) /\ RowP eS eL f fi fb r
 | _ => True
theorem stops1 (x : ByteArray) (hx : ∀ o : Bop, o.str ≠ x) {l : List ByteArray} {ts r : List Tk} (h : Hx (x :: l) ts r) : Stops 1 ts := stops_close x (opAt_none x hx) h
theorem rb1 {e : E} (hg : e.good) {x : ByteArray} (hx : ∀ o : Bop, o.str ≠ x) {l : List ByteArray} {ts r : List Tk} {lv : Nat} (h : Hx (e.tx false 1 ++ x :: l) ts r) (hl : lv + e.nest false 1 <= 20) :
   ∃ n mid, exprP eS eL f n 1 lv ts = some (.ok (e.fl f) mid) /\ Hx (x :: l) mid r := by
 obtain ⟨mid, h1, h2⟩ := hx_app.1 h
 obtain ⟨n, hn⟩ := (rb (eS := eS) (eL := eL) (f := f) false e hg).1 1 lv ts mid (by omega) (by omega) h1 hl (stops1 x hx h2)
 exact ⟨n, mid, hn, h2⟩
theorem rb_index {e : E} (hg : e.good) {l : List ByteArray} {ts r : List Tk} {lv : Nat} (h : Hx (bs [91] :: (e.tx false 1 ++ bs [93] :: l)) ts r) (hl : lv + (e.nest false 1 + 1) <= 20) :
   ∃ n mid, indexP eS eL f n lv ts = some (.ok (e.fl f) mid) /\ Hx l mid r := by
 obtain ⟨n, mid, h1, h2⟩ := rb1 (eS := eS) (eL := eL) (f := f) hg (by intro o; cases o <;> decide) (hx_nx h).2 (lv := lv + 1) (by omega)
 refine ⟨n + 1, mid.tail, ?_, (hx_nx h2).2⟩
 rw [indexP, hx_open h (by omega)]
 simp only [h1, hx_expect h2]
theorem rbS : ∀ s : Ss,
   (s.good none -> ∀ lv a ts r, Hx (s.tx ++ [bs [125]]) ts r -> lv + s.nest <= 20 -> ∃ n, stmtsP eS eL f fi fb n lv a ts = some (.ok (a.app (s.fl f fi fb)) r)) /\
   ((∃ k, s.good (some k)) -> RowP eS eL f fi fb s) := by
 -- one statement and the others behind it
 have step : ∀ (s1 : Ss) (x : ByteArray) lv a ts mid y, nx ts = some x -> x ≠ bs [125] -> (∃ n, stmtP eS eL f fi fb n lv ts = some (.ok s1 mid)) -> (∃ n, stmtsP eS eL f fi fb n lv (a.app s1) mid = some y) -> ∃ n, stmtsP eS eL f fi fb n lv a ts = some y := by
   rintro s1 x lv a ts mid y hn hx ⟨n, h1⟩ ⟨m, h2⟩
   refine ⟨max n m + 1, ?_⟩
   rw [stmtsP, hn]
   simp only
   rw [if_neg hx, stmtP_mono h1 (Nat.le_max_left n m)]
   exact stmtsP_mono h2 (Nat.le_max_right n m)
 have closed : ∀ {α : Type} (a : α) (l : List ByteArray) (ts r : List Tk), Hx (bs [59] :: l) ts r -> closedP eS a ts = .ok a ts.tail := fun a l ts r h => by rw [closedP, hx_expect h]
 intro s
 induction s with
 | nil =>
   refine ⟨fun _ lv a ts r hx hl => ⟨1, ?_⟩, fun _ => trivial⟩
   obtain ⟨hn, ht⟩ := hx_nx hx
   cases ht
   simp [stmtsP, hn, ss_app_nil, Ss.fl]
 | assign g s e r ih =>
   refine ⟨fun hg lv a ts q hx hl => ?_, fun _ => trivial⟩
   obtain ⟨-, g1, g2, g3⟩ := hg
   simp only [Ss.nest] at hl
   simp only [Ss.tx, List.cons_append, List.append_assoc] at hx
   obtain ⟨hn, h1⟩ := hx_nx hx
   obtain ⟨n, mid, h3, h4⟩ := rb1 (eS := eS) (eL := eL) (f := f) g2 (by intro o; cases o <;> decide) (hx_nx h1).2 (lv := lv) (by omega)
   obtain ⟨m, hm⟩ := ih.1 g3 lv (a.app (.assign f s (e.fl f) .nil)) mid.tail q (hx_nx h4).2 (by omega)
   refine step (.assign f s (e.fl f) .nil) s lv a ts mid.tail _ hn (name_ne g1 (.inr (.inr (by decide)))) ⟨n + 1, ?_⟩ ⟨m, ?_⟩
   · rw [stmtP, hn]
     simp only
     rw [if_neg (name_ne g1 (.inr (.inl (by decide)))), if_neg (name_ne g1 (.inr (.inl (by decide)))), if_neg (name_ne g1 (.inr (.inl (by decide)))), if_neg (name_ne g1 (.inr (.inl (by decide)))), if_neg g1.2.2.1, if_pos ⟨g1.2.1, g1.2.2.2⟩, hx_expect h1]
     simp only [h3, closed _ _ _ _ h4]
   · rw [hm, ss_app_assoc]; rfl
 | store g s x y r ih =>
   refine ⟨fun hg lv a ts q hx hl => ?_, fun _ => trivial⟩
   obtain ⟨-, g1, g2, g3, g4⟩ := hg
   simp only [Ss.nest] at hl
   simp only [Ss.tx, List.cons_append, List.append_assoc] at hx
   obtain ⟨hn, h1⟩ := hx_nx hx
   obtain ⟨n, mid, h3, h4⟩ := rb_index (eS := eS) (eL := eL) (f := f) g2 h1 (lv := lv) (by omega)
   obtain ⟨n2, mid2, h5, h6⟩ := rb1 (eS := eS) (eL := eL) (f := f) g3 (by intro o; cases o <;> decide) (hx_nx h4).2 (lv := lv) (by omega)
   obtain ⟨m, hm⟩ := ih.1 g4 lv (a.app (.store f s (x.fl f) (y.fl f) .nil)) mid2.tail q (hx_nx h6).2 (by omega)
   refine step (.store f s (x.fl f) (y.fl f) .nil) s lv a ts mid2.tail _ hn (field_ne g1 (by decide)) ⟨max n n2 + 1, ?_⟩ ⟨m, ?_⟩
   · rw [stmtP, hn]
     simp only
     rw [if_neg (field_ne g1 (by decide)), if_neg (field_ne g1 (by decide)), if_neg (field_ne g1 (by decide)), if_neg (field_ne g1 (by decide)), if_pos g1, indexP_mono h3 (Nat.le_max_left n n2)]
     simp only [hx_expect h4, exprP_mono h5 (Nat.le_max_right n n2), closed _ _ _ _ h6]
   · rw [hm, ss_app_assoc]; rfl
 | effect g x y r ih =>
   refine ⟨fun hg lv a ts q hx hl => ?_, fun _ => trivial⟩
   obtain ⟨-, g2, g3, g4⟩ := hg
   simp only [Ss.nest] at hl
   simp only [Ss.tx, List.cons_append, List.append_assoc] at hx
   obtain ⟨hn, h1⟩ := hx_nx hx
   obtain ⟨n, mid, h3, h4⟩ := rb1 (eS := eS) (eL := eL) (f := f) g2 (by intro o; cases o <;> decide) h1 (lv := lv) (by omega)
   obtain ⟨n2, mid2, h5, h6⟩ := rb1 (eS := eS) (eL := eL) (f := f) g3 (by intro o; cases o <;> decide) (hx_nx h4).2 (lv := lv) (by omega)
   obtain ⟨m, hm⟩ := ih.1 g4 lv (a.app (.effect f (x.fl f) (y.fl f) .nil)) mid2.tail q (hx_nx h6).2 (by omega)
   refine step (.effect f (x.fl f) (y.fl f) .nil) _ lv a ts mid2.tail _ hn (by decide) ⟨max n n2 + 1, ?_⟩ ⟨m, ?_⟩
   · rw [stmtP, hn]
     simp only
     rw [if_neg (by decide), if_neg (by decide), if_pos (by rfl), exprP_mono h3 (Nat.le_max_left n n2)]
     simp only [hx_expect h4, exprP_mono h5 (Nat.le_max_right n n2), closed _ _ _ _ h6]
   · rw [hm, ss_app_assoc]; rfl
 | stop r ih =>
   refine ⟨fun hg lv a ts q hx hl => ?_, fun _ => trivial⟩
   obtain ⟨-, g4⟩ := hg
   simp only [Ss.nest] at hl
   simp only [Ss.tx, List.cons_append, List.append_assoc] at hx
   obtain ⟨hn, h1⟩ := hx_nx hx
   obtain ⟨m, hm⟩ := ih.1 g4 lv (a.app (.stop .nil)) ts.tail.tail q (hx_nx h1).2 (by omega)
   refine step (.stop .nil) _ lv a ts ts.tail.tail _ hn (by decide) ⟨1, ?_⟩ ⟨m, ?_⟩
   · rw [stmtP, hn]
     simp only
     rw [if_neg (by decide), if_neg (by decide), if_neg (by decide), if_pos (by rfl), closed _ _ _ _ h1]
   · rw [hm, ss_app_assoc]; rfl
 | cond w g c b r ihb ih =>
   refine ⟨fun hg lv a ts q hx hl => ?_, fun _ => trivial⟩
   obtain ⟨-, g2, g3, g4⟩ := hg
   simp only [Ss.nest] at hl
   simp only [Ss.tx, List.cons_append, List.append_assoc] at hx
   obtain ⟨hn, h1⟩ := hx_nx hx
   have hrow := ihb.2 ⟨_, g3⟩
   cases b with
   | block fb1 b1 b' =>
     obtain ⟨k, hk, gb1, gb'⟩ := g3
     simp only [Ss.tx, List.cons_append, List.append_assoc] at h1
     obtain ⟨n, mid, h3, h4⟩ := rb1 (eS := eS) (eL := eL) (f := f) g2 (by intro o; cases o <;> decide) h1 (lv := lv) (by omega)
     simp only [Ss.nest] at hl
     have h4' : ∃ mid2, Hx (bs [123] :: (b1.tx ++ [bs [125]])) mid mid2 /\ Hx ((if elseB b' = true then elseS :: b'.tx else []) ++ (r.tx ++ [bs [125]])) mid2 q := by
       have e : bs [123] :: (b1.tx ++ bs [125] :: ((if elseB b' = true then elseS :: b'.tx else []) ++ (r.tx ++ [bs [125]]))) = (bs [123] :: (b1.tx ++ [bs [125]])) ++ ((if elseB b' = true then elseS :: b'.tx else []) ++ (r.tx ++ [bs [125]])) := by simp
       rw [e] at h4
       exact hx_app.1 h4
     obtain ⟨mid2, h5, h6⟩ := h4'
     obtain ⟨n2, h7⟩ := hrow.1 (lv + 1) mid mid2 h5 (by omega)
     cases w with
     | true =>
       simp only [if_true] at hk hn
       obtain rfl : k = 0 := by simpa using hk.symm
       have hb' : b' = .nil := by
         cases b' with
         | nil => rfl
         | block => obtain ⟨k, hk, _⟩ := gb'; cases hk
         | _ => exact absurd gb'.1 (by simp)
       subst hb'
       simp only [elseB, Bool.false_eq_true, if_false, List.nil_append] at h6
       obtain ⟨m, hm⟩ := ih.1 g4 lv (a.app (.cond true f (c.fl f) (.block fb (b1.fl f fi fb) .nil) .nil)) mid2 q h6 (by omega)
       refine step _ _ lv a ts mid2 _ hn (by decide) ⟨max n n2 + 1, ?_⟩ ⟨m, hm.trans ?_⟩
       · rw [stmtP, hn]
         simp only
         rw [if_neg (by decide), if_pos (by rfl), exprP_mono h3 (Nat.le_max_left n n2)]
         simp only [blockP_mono h7 (Nat.le_max_right n n2)]
       · rw [ss_app_assoc]; rfl
     | false =>
       simp only [Bool.false_eq_true, if_false] at hk hn
       obtain rfl : k = 1 := by simpa using hk.symm
       cases b' with
       | block fb2 b2 b'' =>
         obtain ⟨k2, hk2, gb2, gb''⟩ := gb'
         obtain rfl : k2 = 0 := by simpa using hk2.symm
         have hb'' : b'' = .nil := by
           cases b'' with
           | nil => rfl
           | block => obtain ⟨k, hk, _⟩ := gb''; cases hk
           | _ => exact absurd gb''.1 (by simp)
         subst hb''
         simp only [Ss.nest] at hl
         by_cases he : elseB (.block fb2 b2 .nil) = true
         · rw [if_pos he] at h6
           simp only [List.cons_append, Ss.tx, List.append_assoc] at h6
           obtain ⟨hn6, h8⟩ := hx_nx h6
           have h9 : ∃ mid3, Hx (bs [123] :: (b2.tx ++ [bs [125]])) mid2.tail mid3 /\ Hx (r.tx ++ [bs [125]]) mid3 q := by
             have e : bs [123] :: (b2.tx ++ bs [125] :: ((if elseB Ss.nil = true then [elseS] else []) ++ (r.tx ++ [bs [125]]))) = (bs [123] :: (b2.tx ++ [bs [125]])) ++ (r.tx ++ [bs [125]]) := by simp [elseB]
             rw [e] at h8
             exact hx_app.1 h8
           obtain ⟨mid3, h10, h11⟩ := h9
           obtain ⟨n3, h12⟩ := hrow.2.1 (lv + 1) mid2.tail mid3 h10 (by omega)
           obtain ⟨m, hm⟩ := ih.1 g4 lv (a.app (.cond false fi (c.fl f) (.block fb (b1.fl f fi fb) (.block fb (b2.fl f fi fb) .nil)) .nil)) mid3 q h11 (by omega)
           refine step _ _ lv a ts mid3 _ hn (by decide) ⟨max n (max n2 n3) + 1, ?_⟩ ⟨m, hm.trans ?_⟩
           · rw [stmtP, hn]
             simp only
             rw [if_pos (by rfl), exprP_mono h3 (by omega)]
             simp only [blockP_mono h7 (show n2 <= max n (max n2 n3) by omega), hn6]
             rw [if_pos (by rfl), blockP_mono h12 (by omega)]
           · rw [ss_app_assoc]; rfl
         · rw [if_neg he] at h6
           simp only [List.nil_append] at h6
           have hb2 : b2 = .nil := by cases b2 <;> first | rfl | exact absurd rfl he
           subst hb2
           obtain ⟨x, l, q1, q2, q3⟩ := ss_head r g4
           have hn6 : nx mid2 = some x := by rw [q1] at h6; exact (hx_nx h6).1
           obtain ⟨m, hm⟩ := ih.1 g4 lv (a.app (.cond false fi (c.fl f) (.block fb (b1.fl f fi fb) (.block fb .nil .nil)) .nil)) mid2 q h6 (by omega)
           refine step _ _ lv a ts mid2 _ hn (by decide) ⟨max n n2 + 1, ?_⟩ ⟨m, hm.trans ?_⟩
           · rw [stmtP, hn]
             simp only
             rw [if_pos (by rfl), exprP_mono h3 (by omega)]
             simp only [blockP_mono h7 (show n2 <= max n n2 by omega), hn6]
             rw [if_neg (show ¬ x = bs [101, 108, 115, 101] from q2)]
           · rw [ss_app_assoc]; rfl
       | nil => rcases gb' with h | h <;> cases h
       | _ => exact absurd gb'.1 (by simp)
   | nil => rcases g3 with h | h <;> cases w <;> cases h
   | _ => exact absurd g3.1 (by simp)
 | block g b r ihb ihr =>
   refine ⟨fun hg => (by obtain ⟨k, hk, _⟩ := hg; cases hk), fun hg => ?_⟩
   obtain ⟨k, k', hk, g1, g2⟩ := hg
   refine ⟨fun lv ts q hx hl => ?_, ihr.2 ⟨_, g2⟩⟩
   obtain ⟨m, hm⟩ := ihb.1 g1 lv .nil ts.tail q (hx_nx hx).2 hl
   refine ⟨m + 1, ?_⟩
   rw [blockP, hx_open hx (by omega)]
   exact hm
end
end Go.Pm
end SYi
section SYj
namespace Go.Pm
def StOk (u : ByteArray) : Prop := (byl u).head? ≠ some 61
def EnOk (t : ByteArray) : Prop := t ≠ bs [60] /\ t ≠ bs [62] /\ t ≠ bs [61] /\ t ≠ bs [33]
structure Cl (l : List ByteArray) : Prop where
 ok : Ok2 l
 st : ∀ u, l.head? = some u -> StOk u
 en : ∀ t, l.getLast? = some t -> EnOk t
theorem tg_sym {c : UInt8} (h : c.toNat ∈ symB) : Tg (byl (bs [c])) := by rw [byl_bs]; exact .inr (.inr (.inr ⟨c, rfl, h⟩))
theorem tg_op (o : Bop) : Tg (byl o.str) := by
 cases o
 all_goals first
   | exact .inr (.inr (.inr ⟨_, rfl, by decide⟩))
   | exact .inr (.inr (.inl (by decide)))
theorem tg_word {c : UInt8} {r : List UInt8} (h : isLet c = true) (h2 : ∀ b ∈ r, wordB b = true) (h3 : (c :: r).length <= 8) : Tg (byl (bs (c :: r))) := by
 rw [byl_bs]
 exact .inl ⟨c, r, rfl, h, h2, fun h => by omega⟩
def hnameS (k : Nat) : ByteArray := match k with | 0 => bs [97, 99, 116] | 1 => tickS | _ => hitS
def hdTx (k : Nat) : Option Ss -> List ByteArray
 | none => []
 | some b => onS :: hnameS k :: bs [123] :: (b.tx ++ [bs [125]])
def hdGood (h : Option Ss) : Prop := ∀ b, h = some b -> b.good none /\ b.nest <= 19
def progTx (h : Nat -> Option Ss) : List ByteArray := hdTx 0 (h 0) ++ (hdTx 1 (h 1) ++ hdTx 2 (h 2))
theorem handlerP_name {k : Nat} (h : k < 3) : handlerP (hnameS k) = some k := by
 rcases k with _ | _ | _ | k
 · rfl
 · rfl
 · rfl
 · omega
section
variable {eS eL eD : Nat} {f fi fb : Bool}
def updH (h : Nat -> Option Ss) (k : Nat) (b : Ss) : Nat -> Option Ss := fun i => if i = k then some b else h i
theorem rbH {h : Nat -> Option Ss} {k : Nat} {b : Ss} (hk : k < 3) (hh : h k = none) (hg : b.good none) (hn : b.nest <= 19) {ts mid : List Tk} (hx : Hx (hdTx k (some b)) ts mid) {y} (hy : ∃ n, progP eS eL eD f fi fb n (updH h k (b.fl f fi fb)) mid = some y) :
   ∃ n, progP eS eL eD f fi fb n h ts = some y := by
 obtain ⟨h1, h2⟩ := hx_nx hx
 obtain ⟨h3, h4⟩ := hx_nx h2
 have hr : ∃ n, blockP eS eL f fi fb n 1 ts.tail.tail = some (.ok (b.fl f fi fb) mid) := by
   obtain ⟨n, hn⟩ := (rbS (eS := eS) (eL := eL) (f := f) (fi := fi) (fb := fb) b).1 hg 1 .nil ts.tail.tail.tail mid (hx_nx h4).2 (by omega)
   refine ⟨n + 1, ?_⟩
   rw [blockP, hx_open h4 (by omega)]
   exact hn
 obtain ⟨n, hn⟩ := hr
 obtain ⟨m, hm⟩ := hy
 refine ⟨max n m + 1, ?_⟩
 rw [progP, h1]
 simp only
 rw [if_neg (by decide), show expectP eS (bs [111, 110]) ts = .ok () ts.tail from hx_expect hx]
 simp only [h3, handlerP_name hk]
 rw [if_neg (by rw [hh]; simp), blockP_mono hn (Nat.le_max_left n m)]
 exact progP_mono hm (Nat.le_max_right n m)
theorem rbP {h : Nat -> Option Ss} (hg : ∀ k, hdGood (h k)) {ts mid : List Tk} (hx : Hx (progTx h) ts mid) (he : nx mid = some ⟨#[]⟩) :
   ∃ n, progP eS eL eD f fi fb n (fun _ => none) ts = some (.ok (fun k => if k < 3 then (h k).map (·.fl f fi fb) else none) mid) := by
 obtain ⟨m1, x1, hx⟩ := hx_app.1 hx
 obtain ⟨m2, x2, x3⟩ := hx_app.1 hx
 have one : ∀ (k : Nat) (h0 : Nat -> Option Ss) (ts m : List Tk) y, k < 3 -> h0 k = none -> Hx (hdTx k (h k)) ts m -> (∃ n, progP eS eL eD f fi fb n (fun i => if i = k then (h k).map (·.fl f fi fb) else h0 i) m = some y) -> ∃ n, progP eS eL eD f fi fb n h0 ts = some y := by
   intro k h0 ts m y hk h0k hx hy
   have hgk := hg k
   cases hb : h k with
   | none =>
     rw [hb] at hx hy
     cases hx
     obtain ⟨n, hn⟩ := hy
     refine ⟨n, ?_⟩
     rw [<- hn]
     congr 1
     funext i
     split
     · rename_i e; rw [e, h0k]; rfl
     · rfl
   | some b =>
     rw [hb] at hx hy hgk
     exact rbH hk h0k (hgk b rfl).1 (hgk b rfl).2 hx hy
 refine one 0 _ ts m1 _ (by omega) rfl x1 (one 1 _ m1 m2 _ (by omega) (by simp) x2 (one 2 _ m2 mid _ (by omega) (by simp) x3 ⟨1, ?_⟩))
 rw [progP, he]
 simp only
 rw [if_pos (by rfl)]
 congr 2
 funext i
 rcases i with _ | _ | _ | i <;> simp
 omega
end
end Go.Pm
end SYj
section SYk
namespace Go.Pm
def White (g : List UInt8) : Prop := ∀ r, skipL false (g ++ r) = g.length + skipL false r
theorem white_nil : White [] := fun r => by simp
theorem white_one {c : UInt8} (h : c.toNat = 32 \/ c.toNat = 9 \/ c.toNat = 10) : White [c] := fun r => by
 simp only [List.cons_append, List.nil_append, skipL, List.length_singleton]
 by_cases h10 : c.toNat = 10
 · rw [if_pos h10]; omega
 · rw [if_neg h10, if_pos (by rcases h with h | h | h; exact .inr (.inl h); exact .inr (.inr h); exact absurd h h10)]; omega
theorem skip_tok {w : List UInt8} (h : Tg w) (r : List UInt8) : skipL false (w ++ r) = 0 := by
 obtain ⟨c, q, hw, h1, h2, h3, h4⟩ := tg_head h
 rw [hw]
 simp [skipL, h1, h2, h3, h4]
def emitG : List (List UInt8 × ByteArray) -> List UInt8
 | [] => []
 | (g, t) :: r => g ++ (byl t ++ emitG r)
def Sep (t : ByteArray) (g : List UInt8) (u : ByteArray) : Prop := (∃ c q, g = c :: q /\ (c.toNat = 32 \/ c.toNat = 10 \/ c.toNat = 9 \/ c.toNat = 35)) \/ (g = [] /\ (endsW false t && startsB wordB u) = false /\ Adj t u)
def OkG : List (List UInt8 × ByteArray) -> Prop
 | [] => True
 | (g, t) :: r => White g /\ Tg (byl t) /\ (∀ p, r.head? = some p -> Sep t p.1 p.2) /\ OkG r
theorem fol_white {w : List UInt8} (h : Tg w) {c : UInt8} (hc : c.toNat = 32 \/ c.toNat = 10 \/ c.toNat = 9 \/ c.toNat = 35) (r : List UInt8) : Fol w (c :: r) := by
 have hw : wordB c = false := by
   simp only [wordB, isLet, isDig, Bool.or_eq_false_iff, Bool.and_eq_false_iff, decide_eq_false_iff_not]
   omega
 have hd : isDig c = false := by
   simp only [isDig, Bool.and_eq_false_iff, decide_eq_false_iff_not]
   omega
 obtain ⟨a, q, rfl, -⟩ := tg_head h
 simp only [Fol]
 split
 · exact hw
 split
 · exact hd
 · intro _ hp
   rcases pair_cases hp with h | h | h | h | h | h <;> simp only [List.cons.injEq, and_true] at h <;> rw [h.2] at hc <;> exact absurd hc (by decide)
theorem fol_nil (w : List UInt8) : Fol w [] := by cases w <;> trivial
theorem lex_emitG (eS eL eR : Nat) : ∀ (l : List (List UInt8 × ByteArray)) (n i : Nat) (tail : List UInt8), OkG l -> (∀ p, l.getLast? = some p -> Fol (byl p.2) tail) -> l.length <= n ->
   ∃ ts, lexL eS eL eR n i (emitG l ++ tail) = ts ++ lexL eS eL eR (n - l.length) (i + (emitG l).length) tail /\ ∀ r, Hx (l.map (·.2)) (ts ++ r) r
 | [], n, i, tail, _, _, _ => ⟨[], by simp [emitG], fun r => rfl⟩
 | (g, t) :: l, 0, i, tail, _, _, h => by simp at h
 | (g, t) :: l, n + 1, i, tail, ho, hl, h => by
   obtain ⟨hg, ht, ha, ho'⟩ := ho
   have hf : Fol (byl t) (emitG l ++ tail) := by
     cases l with
     | nil => exact hl (g, t) rfl
     | cons u us =>
       obtain ⟨g', u⟩ := u
       simp only [emitG, List.append_assoc]
       rcases ha (g', u) rfl with ⟨c, q, h1, h2⟩ | ⟨h1, h2, h3⟩
       · simp only at h1
         rw [h1]
         exact fol_white ht h2 _
       · simp only at h1 h2 h3
         rw [h1]
         have := fol_next (p := false) ht ho'.2.1 h3 (emitG us ++ tail)
         rwa [gap, h2] at this
   have hsk : skipL false (g ++ (byl t ++ (emitG l ++ tail))) = g.length := by rw [hg, skip_tok ht]; omega
   have htk := tokL_good eS eL eR ht hf
   have hne : (byl t).length ≠ 0 := by
     obtain ⟨c, w, hw, -⟩ := tg_head ht
     rw [hw]; simp
   obtain ⟨ts, e1, e2⟩ := lex_emitG eS eL eR l n (i + g.length + t.size) tail ho' (fun u hu => hl u (by
     cases l with
     | nil => cases hu
     | cons v vs => rw [List.getLast?_cons_cons]; exact hu)) (by simpa using h)
   refine ⟨⟨i + g.length, t, 0⟩ :: ts, ?_, fun r => ⟨⟨i + g.length, t, 0⟩, ts ++ r, rfl, rfl, rfl, e2 r⟩⟩
   simp only [emitG, List.append_assoc, lexL, hsk, List.drop_left, htk]
   rw [if_neg (by
     rintro (h | h)
     · exact h rfl
     · exact hne h)]
   rw [bs_byl, byl_len, e1]
   simp only [List.cons_append, List.length_append, List.length_cons, byl_len]
   congr 3 <;> omega
theorem toks_emitG (eS eL eR : Nat) {l : List (List UInt8 × ByteArray)} {w : List UInt8} (ho : OkG l) (hw : White w) (hsep : w = [] \/ ∃ c q, w = c :: q /\ (c.toNat = 32 \/ c.toNat = 10 \/ c.toNat = 9 \/ c.toNat = 35)) {s : ByteArray} (hs : byl s = emitG l ++ w) :
   ∃ e, Hx (l.map (·.2)) (toksN eS eL eR s (s.size + 1) 0) [⟨e, ⟨#[]⟩, 0⟩] := by
 have htgs : ∀ p ∈ l, Tg (byl p.2) := by
   induction l with
   | nil => intro p hp; cases hp
   | cons q l ih =>
     intro p hp
     obtain ⟨g, t⟩ := q
     rcases List.mem_cons.1 hp with rfl | hp
     · exact ho.2.1
     · have hl : ∀ (l : List (List UInt8 × ByteArray)), OkG l -> ∀ p ∈ l, Tg (byl p.2) := fun l => by
         induction l with
         | nil => intro _ p hp; cases hp
         | cons q l ih => intro h p hp; rcases List.mem_cons.1 hp with rfl | hp; exact h.2.1; exact ih h.2.2.2 p hp
       exact hl l ho.2.2.2 p hp
 have hlen : l.length <= (emitG l).length := by
   clear ho hs
   induction l with
   | nil => simp
   | cons q l ih =>
     obtain ⟨g, t⟩ := q
     have h1 := htgs (g, t) (List.mem_cons_self ..)
     obtain ⟨c, w, hw, -⟩ := tg_head h1
     have := ih fun p hp => htgs p (List.mem_cons_of_mem _ hp)
     simp only [emitG, List.length_append, List.length_cons]
     have h2 : 1 <= (byl t).length := by simp only at hw; rw [hw]; simp
     omega
 have hsz : s.size = (emitG l).length + w.length := by rw [<- byl_len, hs, List.length_append]
 rw [toksN_eq, List.drop_zero, hs]
 obtain ⟨ts, e1, e2⟩ := lex_emitG eS eL eR l (s.size + 1) 0 w ho (fun p hp => by
   have ht := htgs p (List.mem_of_getLast? hp)
   rcases hsep with h | ⟨c, q, h1, h2⟩
   · rw [h]; exact fol_nil _
   · rw [h1]; exact fol_white ht h2 _) (by omega)
 rw [e1]
 obtain ⟨k, hk⟩ : ∃ k, s.size + 1 - l.length = k + 1 := ⟨s.size - l.length, by omega⟩
 have hend : ∀ j, lexL eS eL eR (k + 1) j w = [⟨j + w.length, ⟨#[]⟩, 0⟩] := fun j => by
   have h1 : skipL false w = w.length := by
     have := hw []
     rw [List.append_nil] at this
     rw [this]; simp [skipL]
   simp only [lexL, h1, List.drop_length, tokL]
   rw [if_pos (.inr rfl)]
   rfl
 rw [hk, hend]
 exact ⟨_, e2 _⟩
end Go.Pm
end SYk
