/- Chapter 15, plain: code of trees is valid, and its stack depths fit together. Chapter 15, plain: branches and loops; all trees. -/
import Derived.Test.YtjdbkncfebebnaaDoorPmEt
import Derived.Test.YtjdbkncfebebnaaDoorPmG1
set_option linter.unusedSimpArgs false
set_option linter.unusedVariables false
section SCj
namespace Go.Pm
open Gr
def vOp (op n lo hi : Int) : Prop := (1 <= op /\ op <= 21) /\
 if op = 1 then -2147483647 <= n /\ n <= 2147483647
 else if op = 2 \/ op = 3 then 0 <= n /\ n <= 15
 else if op = 4 then 0 <= n /\ n <= 7
 else if op = 5 then 0 <= n /\ n <= 5
 else if op = 18 \/ op = 19 then lo <= n /\ n <= hi
 else n = 0
theorem vOp_mono {op n lo hi lo' hi' : Int} (h : vOp op n lo hi) (h1 : lo' <= lo) (h2 : hi <= hi') : vOp op n lo' hi' := by
 obtain ⟨h0, h⟩ := h
 refine ⟨h0, ?_⟩
 split at h
 · rw [if_pos (by assumption)]; exact h
 rw [if_neg (by assumption)]
 split at h
 · rw [if_pos (by assumption)]; exact h
 rw [if_neg (by assumption)]
 split at h
 · rw [if_pos (by assumption)]; exact h
 rw [if_neg (by assumption)]
 split at h
 · rw [if_pos (by assumption)]; exact h
 rw [if_neg (by assumption)]
 split at h
 · rw [if_pos (by assumption)]; omega
 rw [if_neg (by assumption)]; exact h
def sucQ (op n q : Int) : List Int := if op = 21 then [] else if op = 18 then [n] else if op = 19 then [q + 1, n] else [q + 1]
theorem sucs_eq (c : Cd) (i : Nat) : sucs c i = sucQ (opA c i) (nA c i) i := rfl
structure Sg (C : Int -> Cd) (n : Nat) (k : Int) (st : Bool) (D : Int -> Nat -> Int) : Prop where
 ln : Ln C n
 beg : ∀ d, D d 0 = d
 fin : ∀ d, D d n = d + k
 ok : ∀ p i, i < n -> vOp (opA (C p) i) (nA (C p) i) p (p + n)
 pop : ∀ p d i, i < n -> popI (opA (C p) i) <= D d i - d
 flow : ∀ p d i, i < n -> ∀ j ∈ sucQ (opA (C p) i) (nA (C p) i) (p + i), p <= j /\ j <= p + n /\ D d (j - p).toNat = D d i + (pushI (opA (C p) i) - popI (opA (C p) i))
 stp : ∀ p d i, i < n -> opA (C p) i = 21 -> st = true /\ D d i = d
def SgE (C : Int -> Cd) (n : Nat) (k : Int) (st : Bool) : Prop := ∃ D, Sg C n k st D
theorem opA_left {a b : Cd} {i : Nat} (h : i < a.length) : opA (a ++ b) i = opA a i /\ nA (a ++ b) i = nA a i := by
 simp [opA, nA, List.getD_eq_getElem?_getD, List.getElem?_append, h]
theorem opA_right {a b : Cd} {i : Nat} (h : ¬ i < a.length) : opA (a ++ b) i = opA b (i - a.length) /\ nA (a ++ b) i = nA b (i - a.length) := by
 simp [opA, nA, List.getD_eq_getElem?_getD, List.getElem?_append, h]
theorem sg_one {op n k : Int} (ho : op ≠ 18 /\ op ≠ 19 /\ op ≠ 21) (hv : vOp op n 0 0) (hp : popI op = 0) (hk : k = pushI op) : SgE (fun _ => [(op, n)]) 1 k false := by
 have hv' : ∀ p, vOp op n p (p + (1 : Nat)) := fun p => by
   obtain ⟨h0, h⟩ := hv
   refine ⟨h0, ?_⟩
   have hj : ¬ (op = 18 \/ op = 19) := by omega
   rw [if_neg hj] at h ⊢
   exact h
 refine ⟨fun d i => if i = 0 then d else d + k, ⟨fun _ => rfl, fun d => rfl, fun d => rfl, ?_, ?_, ?_, ?_⟩⟩
 · intro p i hi
   obtain rfl : i = 0 := by omega
   exact hv' p
 · intro p d i hi
   obtain rfl : i = 0 := by omega
   show popI op <= _
   simp [hp]
 · intro p d i hi j hj
   obtain rfl : i = 0 := by omega
   have e : sucQ (opA [(op, n)] 0) (nA [(op, n)] 0) (p + (0 : Nat)) = [p + 1] := by
     show sucQ op n _ = _
     simp [sucQ, ho]
   rw [e] at hj
   simp only [List.mem_singleton] at hj
   subst hj
   refine ⟨by omega, by omega, ?_⟩
   have : (p + 1 - p).toNat = 1 := by omega
   rw [this]
   show d + k = d + (pushI op - popI op)
   omega
 · intro p d i hi h
   obtain rfl : i = 0 := by omega
   exact absurd h ho.2.2
theorem sg_stop : SgE (fun _ => [(21, 0)]) 1 0 true := by
 refine ⟨fun d i => d, ⟨fun _ => rfl, fun d => rfl, fun d => by omega, ?_, ?_, ?_, ?_⟩⟩
 · intro p i hi
   obtain rfl : i = 0 := by omega
   exact ⟨⟨by show (1 : Int) <= 21; omega, by show (21 : Int) <= 21; omega⟩, rfl⟩
 · intro p d i hi
   obtain rfl : i = 0 := by omega
   show (0 : Int) <= _
   omega
 · intro p d i hi j hj
   obtain rfl : i = 0 := by omega
   have e : sucQ (opA [((21 : Int), (0 : Int))] 0) (nA [((21 : Int), (0 : Int))] 0) (p + (0 : Nat)) = [] := rfl
   rw [e] at hj; cases hj
 · intro p d i hi h; exact ⟨rfl, rfl⟩
theorem sg_nil : SgE (fun _ => []) 0 0 false :=
 ⟨fun d i => d, ⟨fun _ => rfl, fun d => rfl, fun d => by omega, fun p i h => by omega, fun p d i h => by omega, fun p d i h => by omega, fun p d i h => by omega⟩⟩
theorem sg_sq {A B : Int -> Cd} {n m : Nat} {k l : Int} {s t : Bool} (ha : SgE A n k s) (hb : SgE B m l t) (hk : 0 <= k) (ht : t = true -> k = 0) : SgE (sq A B) (n + m) (k + l) (s || t) := by
 obtain ⟨DA, a⟩ := ha
 obtain ⟨DB, b⟩ := hb
 have dat : ∀ d i, n <= i -> (if i < n then DA d i else DB (d + k) (i - n)) = DB (d + k) (i - n) := fun d i h => if_neg (by omega)
 have dle : ∀ d i, i <= n -> (if i < n then DA d i else DB (d + k) (i - n)) = DA d i := fun d i h => by
   by_cases h' : i < n
   · rw [if_pos h']
   · obtain rfl : i = n := by omega
     rw [if_neg h', Nat.sub_self, b.beg, a.fin]
 have opl : ∀ p i, i < n -> opA (sq A B p) i = opA (A p) i /\ nA (sq A B p) i = nA (A p) i := fun p i h => opA_left (by rw [a.ln p]; exact h)
 have opr : ∀ p i, n <= i -> opA (sq A B p) i = opA (B (p + n)) (i - n) /\ nA (sq A B p) i = nA (B (p + n)) (i - n) := fun p i h => by
   have := opA_right (a := A p) (b := B (p + (A p).length)) (i := i) (by rw [a.ln p]; omega)
   rw [a.ln p] at this
   exact ⟨by rw [sq, a.ln p]; exact this.1, by rw [sq, a.ln p]; exact this.2⟩
 refine ⟨fun d i => if i < n then DA d i else DB (d + k) (i - n), ⟨ln_sq a.ln b.ln, fun d => ?_, fun d => ?_, ?_, ?_, ?_, ?_⟩⟩
 · rw [dle d 0 (by omega), a.beg]
 · rw [dat d _ (by omega), show n + m - n = m by omega, b.fin]; omega
 · intro p i hi
   by_cases h : i < n
   · rw [(opl p i h).1, (opl p i h).2]
     exact vOp_mono (a.ok p i h) (by omega) (by omega)
   · rw [(opr p i (by omega)).1, (opr p i (by omega)).2]
     exact vOp_mono (b.ok (p + n) (i - n) (by omega)) (by omega) (by omega)
 · intro p d i hi
   by_cases h : i < n
   · rw [(opl p i h).1]
     show _ <= (if i < n then DA d i else DB (d + k) (i - n)) - d
     rw [dle d i (by omega)]; exact a.pop p d i h
   · rw [(opr p i (by omega)).1]
     show _ <= (if i < n then DA d i else DB (d + k) (i - n)) - d
     rw [dat d i (by omega)]
     have := b.pop (p + n) (d + k) (i - n) (by omega)
     omega
 · intro p d i hi j hj
   show _ /\ _ /\ (if (j - p).toNat < n then DA d (j - p).toNat else DB (d + k) ((j - p).toNat - n)) = (if i < n then DA d i else DB (d + k) (i - n)) + _
   by_cases h : i < n
   · rw [(opl p i h).1, (opl p i h).2] at hj
     rw [(opl p i h).1]
     obtain ⟨q1, q2, q3⟩ := a.flow p d i h j hj
     rw [dle d i (by omega), dle d _ (by omega)]
     exact ⟨q1, by omega, q3⟩
   · rw [(opr p i (by omega)).1, (opr p i (by omega)).2, show p + (i : Int) = (p + n) + ((i - n : Nat) : Int) by omega] at hj
     rw [(opr p i (by omega)).1]
     obtain ⟨q1, q2, q3⟩ := b.flow (p + n) (d + k) (i - n) (by omega) j hj
     rw [dat d i (by omega), dat d _ (by omega), show (j - p).toNat - n = (j - (p + n)).toNat by omega]
     exact ⟨by omega, by omega, q3⟩
 · intro p d i hi h
   show _ /\ (if i < n then DA d i else DB (d + k) (i - n)) = d
   by_cases h' : i < n
   · rw [(opl p i h').1] at h
     obtain ⟨q1, q2⟩ := a.stp p d i h' h
     rw [dle d i (by omega)]; exact ⟨by rw [q1]; rfl, q2⟩
   · rw [(opr p i (by omega)).1] at h
     obtain ⟨q1, q2⟩ := b.stp (p + n) (d + k) (i - n) (by omega) h
     rw [dat d i (by omega), q2, ht q1]
     exact ⟨by rw [q1]; simp, by omega⟩
theorem sg_sn {A : Int -> Cd} {n : Nat} {k l op x : Int} {s : Bool} (ha : SgE A n k s) (hs : s = false) (hk : 0 <= k) (ho : op ≠ 18 /\ op ≠ 19 /\ op ≠ 21) (hv : vOp op x 0 0) (hp : popI op <= k) (hl : l = k + pushI op - popI op) : SgE (snC A (op, x)) (n + 1) l false := by
 obtain ⟨D, a⟩ := ha
 have hv' : ∀ p q, vOp op x p q := fun p q => by
   obtain ⟨h0, h⟩ := hv
   refine ⟨h0, ?_⟩
   have hj : ¬ (op = 18 \/ op = 19) := by omega
   rw [if_neg hj] at h ⊢
   exact h
 have opl : ∀ p i, i < n -> opA (snC A (op, x) p) i = opA (A p) i /\ nA (snC A (op, x) p) i = nA (A p) i := fun p i h => opA_left (by rw [a.ln p]; exact h)
 have opr : ∀ p, opA (snC A (op, x) p) n = op /\ nA (snC A (op, x) p) n = x := fun p => by
   have := opA_right (a := A p) (b := [(op, x)]) (i := n) (by rw [a.ln p]; omega)
   rw [a.ln p, Nat.sub_self] at this
   exact this
 have dle : ∀ d i, i <= n -> (if i <= n then D d i else d + l) = D d i := fun d i h => if_pos h
 refine ⟨fun d i => if i <= n then D d i else d + l, ⟨ln_sn a.ln, fun d => ?_, fun d => if_neg (by omega), ?_, ?_, ?_, ?_⟩⟩
 · rw [dle d 0 (by omega), a.beg]
 · intro p i hi
   by_cases h : i < n
   · rw [(opl p i h).1, (opl p i h).2]
     exact vOp_mono (a.ok p i h) (by omega) (by omega)
   · obtain rfl : i = n := by omega
     rw [(opr p).1, (opr p).2]; exact hv' _ _
 · intro p d i hi
   show _ <= (if i <= n then D d i else d + l) - d
   rw [dle d i (by omega)]
   by_cases h : i < n
   · rw [(opl p i h).1]; exact a.pop p d i h
   · obtain rfl : i = n := by omega
     rw [(opr p).1, a.fin]; omega
 · intro p d i hi j hj
   show _ /\ _ /\ (if (j - p).toNat <= n then D d (j - p).toNat else d + l) = (if i <= n then D d i else d + l) + _
   rw [dle d i (by omega)]
   by_cases h : i < n
   · rw [(opl p i h).1, (opl p i h).2] at hj
     rw [(opl p i h).1]
     obtain ⟨q1, q2, q3⟩ := a.flow p d i h j hj
     rw [dle d _ (by omega)]
     exact ⟨q1, by omega, q3⟩
   · obtain rfl : i = n := by omega
     rw [(opr p).1, (opr p).2] at hj
     rw [(opr p).1]
     have e : sucQ op x (p + i) = [p + i + 1] := by simp [sucQ, ho]
     rw [e] at hj
     simp only [List.mem_singleton] at hj
     subst hj
     rw [if_neg (by omega), a.fin]
     exact ⟨by omega, by omega, by omega⟩
 · intro p d i hi h
   by_cases h' : i < n
   · rw [(opl p i h').1] at h
     have := (a.stp p d i h' h).1
     rw [hs] at this; cases this
   · obtain rfl : i = n := by omega
     rw [(opr p).1] at h
     exact absurd h ho.2.2
end Go.Pm
end SCj
section SCk
namespace Go.Pm
open Gr
theorem pop19 : popI 19 = 1 /\ pushI 19 = 0 /\ popI 18 = 0 /\ pushI 18 = 0 := by decide
theorem sg_br {C A B : Int -> Cd} {n m q : Nat} {k : Int} {s t : Bool} (hC : SgE C n 1 false) (hA : SgE A m k s) (hB : SgE B q k t) (hk : 0 <= k) : SgE (brC C A B) (n + m + q + 2) k (s || t) := by
 obtain ⟨DC, c⟩ := hC
 obtain ⟨DA, a⟩ := hA
 obtain ⟨DB, b⟩ := hB
 have eq : ∀ p, brC C A B p = C p ++ ((19, p + n + 1 + m + 1) :: (A (p + n + 1) ++ ((18, p + n + 1 + m + 1 + q) :: B (p + n + 1 + m + 1)))) := fun p => by
   simp only [brC, c.ln p, a.ln _, b.ln _]
 have o1 : ∀ p i, i < n -> opA (brC C A B p) i = opA (C p) i /\ nA (brC C A B p) i = nA (C p) i := fun p i h => by
   rw [eq]; exact opA_left (by rw [c.ln p]; exact h)
 have o2 : ∀ p, opA (brC C A B p) n = 19 /\ nA (brC C A B p) n = p + n + 1 + m + 1 := fun p => by
   rw [eq]
   have := opA_right (a := C p) (b := (19, p + n + 1 + m + 1) :: (A (p + n + 1) ++ ((18, p + n + 1 + m + 1 + q) :: B (p + n + 1 + m + 1)))) (i := n) (by rw [c.ln p]; omega)
   rw [c.ln p, Nat.sub_self] at this
   exact this
 have o3 : ∀ p i, i < m -> opA (brC C A B p) (n + 1 + i) = opA (A (p + n + 1)) i /\ nA (brC C A B p) (n + 1 + i) = nA (A (p + n + 1)) i := fun p i h => by
   rw [eq]
   have := opA_right (a := C p ++ [(19, p + n + 1 + m + 1)]) (b := A (p + n + 1) ++ ((18, p + n + 1 + m + 1 + q) :: B (p + n + 1 + m + 1))) (i := n + 1 + i) (by simp [c.ln p] <;> omega)
   simp only [List.append_assoc, List.cons_append, List.nil_append, List.length_append, c.ln p, List.length_cons, List.length_nil] at this
   rw [show n + 1 + i - (n + (0 + 1)) = i by omega] at this
   have l := opA_left (a := A (p + n + 1)) (b := (18, p + n + 1 + m + 1 + q) :: B (p + n + 1 + m + 1)) (i := i) (by rw [a.ln _]; exact h)
   exact ⟨this.1.trans l.1, this.2.trans l.2⟩
 have o4 : ∀ p, opA (brC C A B p) (n + 1 + m) = 18 /\ nA (brC C A B p) (n + 1 + m) = p + n + 1 + m + 1 + q := fun p => by
   rw [eq]
   have := opA_right (a := C p ++ ((19, p + n + 1 + m + 1) :: A (p + n + 1))) (b := (18, p + n + 1 + m + 1 + q) :: B (p + n + 1 + m + 1)) (i := n + 1 + m) (by simp [c.ln p, a.ln _] <;> omega)
   simp only [List.append_assoc, List.cons_append, List.length_append, c.ln p, a.ln _, List.length_cons] at this
   rw [show n + 1 + m - (n + (m + 1)) = 0 by omega] at this
   exact this
 have o5 : ∀ p i, i < q -> opA (brC C A B p) (n + 1 + m + 1 + i) = opA (B (p + n + 1 + m + 1)) i /\ nA (brC C A B p) (n + 1 + m + 1 + i) = nA (B (p + n + 1 + m + 1)) i := fun p i h => by
   rw [eq]
   have := opA_right (a := C p ++ ((19, p + n + 1 + m + 1) :: (A (p + n + 1) ++ [(18, p + n + 1 + m + 1 + q)]))) (b := B (p + n + 1 + m + 1)) (i := n + 1 + m + 1 + i) (by simp [c.ln p, a.ln _] <;> omega)
   simp only [List.append_assoc, List.cons_append, List.nil_append, List.length_append, c.ln p, a.ln _, List.length_cons, List.length_nil] at this
   rw [show n + 1 + m + 1 + i - (n + (m + (0 + 1) + 1)) = i by omega] at this
   exact this
 let D : Int -> Nat -> Int := fun d i => if i <= n then DC d i else if i <= n + 1 + m then DA d (i - n - 1) else DB d (i - n - m - 2)
 have d1 : ∀ d i, i <= n -> D d i = DC d i := fun d i h => if_pos h
 have d3 : ∀ d i, i <= m -> D d (n + 1 + i) = DA d i := fun d i h => by
   show (if _ then _ else if _ then _ else _) = _
   rw [if_neg (by omega), if_pos (by omega)]; congr 1; omega
 have d5 : ∀ d i, D d (n + 1 + m + 1 + i) = DB d i := fun d i => by
   show (if _ then _ else if _ then _ else _) = _
   rw [if_neg (by omega), if_neg (by omega)]; congr 1; omega
 have pos : ∀ i, i < n + m + q + 2 -> i < n \/ i = n \/ (∃ j, j < m /\ i = n + 1 + j) \/ i = n + 1 + m \/ ∃ j, j < q /\ i = n + 1 + m + 1 + j := fun i hi => by
   by_cases h1 : i < n
   · exact .inl h1
   by_cases h2 : i = n
   · exact .inr (.inl h2)
   by_cases h3 : i < n + 1 + m
   · exact .inr (.inr (.inl ⟨i - n - 1, by omega, by omega⟩))
   by_cases h4 : i = n + 1 + m
   · exact .inr (.inr (.inr (.inl h4)))
   · exact .inr (.inr (.inr (.inr ⟨i - n - m - 2, by omega, by omega⟩)))
 refine ⟨D, ⟨ln_br c.ln a.ln b.ln, fun d => ?_, fun d => ?_, ?_, ?_, ?_, ?_⟩⟩
 · rw [d1 d 0 (by omega), c.beg]
 · rw [show n + m + q + 2 = n + 1 + m + 1 + q by omega, d5, b.fin]
 · intro p i hi
   rcases pos i hi with h | rfl | ⟨j, hj, rfl⟩ | rfl | ⟨j, hj, rfl⟩
   · rw [(o1 p i h).1, (o1 p i h).2]; exact vOp_mono (c.ok p i h) (by omega) (by omega)
   · rw [(o2 p).1, (o2 p).2]; exact ⟨by omega, by rw [if_neg (by omega), if_neg (by omega), if_neg (by omega), if_neg (by omega), if_pos (by omega)]; omega⟩
   · rw [(o3 p j hj).1, (o3 p j hj).2]; exact vOp_mono (a.ok _ j hj) (by omega) (by omega)
   · rw [(o4 p).1, (o4 p).2]; exact ⟨by omega, by rw [if_neg (by omega), if_neg (by omega), if_neg (by omega), if_neg (by omega), if_pos (by omega)]; omega⟩
   · rw [(o5 p j hj).1, (o5 p j hj).2]; exact vOp_mono (b.ok _ j hj) (by omega) (by omega)
 · intro p d i hi
   rcases pos i hi with h | rfl | ⟨j, hj, rfl⟩ | rfl | ⟨j, hj, rfl⟩
   · rw [(o1 p i h).1, d1 d i (by omega)]; exact c.pop p d i h
   · rw [(o2 p).1, d1 d i (by omega), c.fin, pop19.1]; omega
   · rw [(o3 p j hj).1, d3 d j (by omega)]; exact a.pop _ d j hj
   · rw [(o4 p).1, d3 d m (by omega), a.fin, pop19.2.2.1]; omega
   · rw [(o5 p j hj).1, d5]; exact b.pop _ d j hj
 · intro p d i hi j hj
   rcases pos i hi with h | rfl | ⟨r, hr, rfl⟩ | rfl | ⟨r, hr, rfl⟩
   · rw [(o1 p i h).1, (o1 p i h).2] at hj
     rw [(o1 p i h).1, d1 d i (by omega)]
     obtain ⟨q1, q2, q3⟩ := c.flow p d i h j hj
     rw [d1 d _ (by omega)]
     exact ⟨q1, by omega, q3⟩
   · rw [(o2 p).1, (o2 p).2] at hj
     have e : sucQ 19 (p + i + 1 + m + 1) (p + i) = [p + i + 1, p + i + 1 + m + 1] := rfl
     rw [e] at hj
     rw [(o2 p).1, d1 d i (by omega), c.fin, pop19.1, pop19.2.1]
     simp only [List.mem_cons, List.not_mem_nil, or_false] at hj
     rcases hj with rfl | rfl
     · rw [show (p + i + 1 - p).toNat = i + 1 + 0 by omega, d3 d 0 (by omega), a.beg]
       exact ⟨by omega, by omega, by omega⟩
     · rw [show (p + i + 1 + m + 1 - p).toNat = i + 1 + m + 1 + 0 by omega, d5, b.beg]
       exact ⟨by omega, by omega, by omega⟩
   · rw [(o3 p r hr).1, (o3 p r hr).2, show p + ((n + 1 + r : Nat) : Int) = (p + n + 1) + r by omega] at hj
     rw [(o3 p r hr).1, d3 d r (by omega)]
     obtain ⟨q1, q2, q3⟩ := a.flow (p + n + 1) d r hr j hj
     rw [show (j - p).toNat = n + 1 + (j - (p + n + 1)).toNat by omega, d3 d _ (by omega)]
     exact ⟨by omega, by omega, q3⟩
   · rw [(o4 p).1, (o4 p).2] at hj
     have e : ∀ x y, sucQ 18 x y = [x] := fun _ _ => rfl
     rw [e] at hj
     rw [(o4 p).1, d3 d m (by omega), a.fin, pop19.2.2.1, pop19.2.2.2]
     simp only [List.mem_singleton] at hj
     subst hj
     rw [show (p + n + 1 + m + 1 + q - p).toNat = n + 1 + m + 1 + q by omega, d5, b.fin]
     exact ⟨by omega, by omega, by omega⟩
   · rw [(o5 p r hr).1, (o5 p r hr).2, show p + ((n + 1 + m + 1 + r : Nat) : Int) = (p + n + 1 + m + 1) + r by omega] at hj
     rw [(o5 p r hr).1, d5]
     obtain ⟨q1, q2, q3⟩ := b.flow (p + n + 1 + m + 1) d r hr j hj
     rw [show (j - p).toNat = n + 1 + m + 1 + (j - (p + n + 1 + m + 1)).toNat by omega, d5]
     exact ⟨by omega, by omega, q3⟩
 · intro p d i hi h
   rcases pos i hi with h' | rfl | ⟨j, hj, rfl⟩ | rfl | ⟨j, hj, rfl⟩
   · rw [(o1 p i h').1] at h
     have := (c.stp p d i h' h).1
     cases this
   · rw [(o2 p).1] at h; omega
   · rw [(o3 p j hj).1] at h
     obtain ⟨q1, q2⟩ := a.stp _ d j hj h
     rw [d3 d j (by omega)]
     exact ⟨by rw [q1]; rfl, q2⟩
   · rw [(o4 p).1] at h; omega
   · rw [(o5 p j hj).1] at h
     obtain ⟨q1, q2⟩ := b.stp _ d j hj h
     rw [d5]
     exact ⟨by rw [q1]; simp, q2⟩
theorem sg_wh {C A : Int -> Cd} {n m : Nat} {s : Bool} (hC : SgE C n 1 false) (hA : SgE A m 0 s) : SgE (whC C A) (n + m + 2) 0 s := by
 obtain ⟨DC, c⟩ := hC
 obtain ⟨DA, a⟩ := hA
 have eq : ∀ p, whC C A p = C p ++ ((19, p + n + 1 + m + 1) :: (A (p + n + 1) ++ [(18, p)])) := fun p => by
   simp only [whC, c.ln p, a.ln _]
 have o1 : ∀ p i, i < n -> opA (whC C A p) i = opA (C p) i /\ nA (whC C A p) i = nA (C p) i := fun p i h => by
   rw [eq]; exact opA_left (by rw [c.ln p]; exact h)
 have o2 : ∀ p, opA (whC C A p) n = 19 /\ nA (whC C A p) n = p + n + 1 + m + 1 := fun p => by
   rw [eq]
   have := opA_right (a := C p) (b := (19, p + n + 1 + m + 1) :: (A (p + n + 1) ++ [(18, p)])) (i := n) (by rw [c.ln p]; omega)
   rw [c.ln p, Nat.sub_self] at this
   exact this
 have o3 : ∀ p i, i < m -> opA (whC C A p) (n + 1 + i) = opA (A (p + n + 1)) i /\ nA (whC C A p) (n + 1 + i) = nA (A (p + n + 1)) i := fun p i h => by
   rw [eq]
   have := opA_right (a := C p ++ [(19, p + n + 1 + m + 1)]) (b := A (p + n + 1) ++ [(18, p)]) (i := n + 1 + i) (by simp [c.ln p] <;> omega)
   simp only [List.append_assoc, List.cons_append, List.nil_append, List.length_append, c.ln p, List.length_cons, List.length_nil] at this
   rw [show n + 1 + i - (n + (0 + 1)) = i by omega] at this
   have l := opA_left (a := A (p + n + 1)) (b := [(18, p)]) (i := i) (by rw [a.ln _]; exact h)
   exact ⟨this.1.trans l.1, this.2.trans l.2⟩
 have o4 : ∀ p, opA (whC C A p) (n + 1 + m) = 18 /\ nA (whC C A p) (n + 1 + m) = p := fun p => by
   rw [eq]
   have := opA_right (a := C p ++ ((19, p + n + 1 + m + 1) :: A (p + n + 1))) (b := [(18, p)]) (i := n + 1 + m) (by simp [c.ln p, a.ln _] <;> omega)
   simp only [List.append_assoc, List.cons_append, List.length_append, c.ln p, a.ln _, List.length_cons] at this
   rw [show n + 1 + m - (n + (m + 1)) = 0 by omega] at this
   exact this
 let D : Int -> Nat -> Int := fun d i => if i <= n then DC d i else if i <= n + 1 + m then DA d (i - n - 1) else d
 have d1 : ∀ d i, i <= n -> D d i = DC d i := fun d i h => if_pos h
 have d3 : ∀ d i, i <= m -> D d (n + 1 + i) = DA d i := fun d i h => by
   show (if _ then _ else if _ then _ else _) = _
   rw [if_neg (by omega), if_pos (by omega)]; congr 1; omega
 have d5 : ∀ d, D d (n + 1 + m + 1) = d := fun d => by
   show (if _ then _ else if _ then _ else _) = _
   rw [if_neg (by omega), if_neg (by omega)]
 have pos : ∀ i, i < n + m + 2 -> i < n \/ i = n \/ (∃ j, j < m /\ i = n + 1 + j) \/ i = n + 1 + m := fun i hi => by
   by_cases h1 : i < n
   · exact .inl h1
   by_cases h2 : i = n
   · exact .inr (.inl h2)
   by_cases h3 : i < n + 1 + m
   · exact .inr (.inr (.inl ⟨i - n - 1, by omega, by omega⟩))
   · exact .inr (.inr (.inr (by omega)))
 refine ⟨D, ⟨ln_wh c.ln a.ln, fun d => ?_, fun d => ?_, ?_, ?_, ?_, ?_⟩⟩
 · rw [d1 d 0 (by omega), c.beg]
 · rw [show n + m + 2 = n + 1 + m + 1 by omega, d5]; omega
 · intro p i hi
   rcases pos i hi with h | rfl | ⟨j, hj, rfl⟩ | rfl
   · rw [(o1 p i h).1, (o1 p i h).2]; exact vOp_mono (c.ok p i h) (by omega) (by omega)
   · rw [(o2 p).1, (o2 p).2]; exact ⟨by omega, by rw [if_neg (by omega), if_neg (by omega), if_neg (by omega), if_neg (by omega), if_pos (by omega)]; omega⟩
   · rw [(o3 p j hj).1, (o3 p j hj).2]; exact vOp_mono (a.ok _ j hj) (by omega) (by omega)
   · rw [(o4 p).1, (o4 p).2]; exact ⟨by omega, by rw [if_neg (by omega), if_neg (by omega), if_neg (by omega), if_neg (by omega), if_pos (by omega)]; omega⟩
 · intro p d i hi
   rcases pos i hi with h | rfl | ⟨j, hj, rfl⟩ | rfl
   · rw [(o1 p i h).1, d1 d i (by omega)]; exact c.pop p d i h
   · rw [(o2 p).1, d1 d i (by omega), c.fin, pop19.1]; omega
   · rw [(o3 p j hj).1, d3 d j (by omega)]; exact a.pop _ d j hj
   · rw [(o4 p).1, d3 d m (by omega), a.fin, pop19.2.2.1]; omega
 · intro p d i hi j hj
   rcases pos i hi with h | rfl | ⟨r, hr, rfl⟩ | rfl
   · rw [(o1 p i h).1, (o1 p i h).2] at hj
     rw [(o1 p i h).1, d1 d i (by omega)]
     obtain ⟨q1, q2, q3⟩ := c.flow p d i h j hj
     rw [d1 d _ (by omega)]
     exact ⟨q1, by omega, q3⟩
   · rw [(o2 p).1, (o2 p).2] at hj
     have e : sucQ 19 (p + i + 1 + m + 1) (p + i) = [p + i + 1, p + i + 1 + m + 1] := rfl
     rw [e] at hj
     rw [(o2 p).1, d1 d i (by omega), c.fin, pop19.1, pop19.2.1]
     simp only [List.mem_cons, List.not_mem_nil, or_false] at hj
     rcases hj with rfl | rfl
     · rw [show (p + i + 1 - p).toNat = i + 1 + 0 by omega, d3 d 0 (by omega), a.beg]
       exact ⟨by omega, by omega, by omega⟩
     · rw [show (p + i + 1 + m + 1 - p).toNat = i + 1 + m + 1 by omega, d5]
       exact ⟨by omega, by omega, by omega⟩
   · rw [(o3 p r hr).1, (o3 p r hr).2, show p + ((n + 1 + r : Nat) : Int) = (p + n + 1) + r by omega] at hj
     rw [(o3 p r hr).1, d3 d r (by omega)]
     obtain ⟨q1, q2, q3⟩ := a.flow (p + n + 1) d r hr j hj
     rw [show (j - p).toNat = n + 1 + (j - (p + n + 1)).toNat by omega, d3 d _ (by omega)]
     exact ⟨by omega, by omega, q3⟩
   · rw [(o4 p).1, (o4 p).2] at hj
     have e : ∀ x y, sucQ 18 x y = [x] := fun _ _ => rfl
     rw [e] at hj
     rw [(o4 p).1, d3 d m (by omega), a.fin, pop19.2.2.1, pop19.2.2.2]
     simp only [List.mem_singleton] at hj
     subst hj
     rw [show (j - j).toNat = 0 by omega, d1 d 0 (by omega), c.beg]
     exact ⟨by omega, by omega, by omega⟩
 · intro p d i hi h
   rcases pos i hi with h' | rfl | ⟨j, hj, rfl⟩ | rfl
   · rw [(o1 p i h').1] at h
     have := (c.stp p d i h' h).1
     cases this
   · rw [(o2 p).1] at h; omega
   · rw [(o3 p j hj).1] at h
     obtain ⟨q1, q2⟩ := a.stp _ d j hj h
     rw [d3 d j (by omega)]
     exact ⟨q1, q2⟩
   · rw [(o4 p).1] at h; omega
def E.inV (vs : List ByteArray) : E -> Prop
 | .var s => s ∈ vs
 | .field _ _ e => e.inV vs
 | .un _ _ e => e.inV vs
 | .bin _ _ a b => a.inV vs /\ b.inV vs
 | _ => True
def Ss.inV (vs : List ByteArray) : Ss -> Prop
 | .nil => True
 | .assign _ s e r => (s ∈ vs /\ e.inV vs) /\ r.inV vs
 | .store _ _ a b r => (a.inV vs /\ b.inV vs) /\ r.inV vs
 | .effect _ a b r => (a.inV vs /\ b.inV vs) /\ r.inV vs
 | .stop r => r.inV vs
 | .cond _ _ c b r => c.inV vs /\ b.inV vs /\ r.inV vs
 | .block _ b r => b.inV vs /\ r.inV vs
theorem ixI_mem {vs : List ByteArray} {s : ByteArray} (h : s ∈ vs) : 0 <= ixI vs s /\ ixI vs s < vs.length := by
 induction vs with
 | nil => cases h
 | cons x l ih =>
   simp only [ixI, List.length_cons]
   split
   · omega
   · rename_i hx
     have := ih ((List.mem_cons.1 h).resolve_left fun e => hx e.symm)
     rw [if_neg (by omega)]
     omega
theorem fieldI_store {s : ByteArray} (h : s ∈ storL) : 0 <= fieldI s /\ fieldI s <= 5 := by
 simp only [storL, List.mem_cons, List.not_mem_nil, or_false] at h
 rcases h with rfl | rfl | rfl | rfl | rfl | rfl <;> decide
theorem fieldI_field {s : ByteArray} (h : s ∈ fieldL) : 0 <= fieldI s /\ fieldI s <= 7 := by
 simp only [fieldL, storL, List.cons_append, List.nil_append, List.mem_cons, List.not_mem_nil, or_false] at h
 rcases h with rfl | rfl | rfl | rfl | rfl | rfl | rfl | rfl <;> decide
theorem nameI_rng (s : ByteArray) : nameI s = 6 \/ nameI s = 7 \/ nameI s = 8 := by unfold nameI; split <;> (try split) <;> simp
section
variable {vs : List ByteArray} (hv : vs.length <= 16)
theorem vOp_0 {op : Int} (h : 6 <= op /\ op <= 21 /\ op ≠ 18 /\ op ≠ 19) (lo hi : Int) : vOp op 0 lo hi :=
 ⟨by omega, by rw [if_neg (by omega), if_neg (by omega), if_neg (by omega), if_neg (by omega), if_neg (by omega)]⟩
theorem sg_op {A B : Int -> Cd} {n m : Nat} {op : Int} (hA : SgE A n 1 false) (hB : SgE B m 1 false) (ho : 6 <= op /\ op <= 21 /\ op ≠ 18 /\ op ≠ 19 /\ op ≠ 21) (h2 : popI op = 2) (h1 : pushI op = 1) : SgE (snC (sq A B) (op, 0)) (n + m + 1) 1 false :=
 sg_sn (sg_sq hA hB (by omega) (fun h => by cases h)) rfl (by omega) ⟨by omega, by omega, by omega⟩ (vOp_0 ⟨by omega, by omega, by omega, by omega⟩ 0 0) (by omega) (by omega)
theorem sg_bin {o : Bop} {A B : Int -> Cd} {n m : Nat} (hA : SgE A n 1 false) (hB : SgE B m 1 false) : ∃ k, SgE (binC o A B) k 1 false := by
 cases o
 case and => exact ⟨_, sg_br hA hB (sg_one (by omega) ⟨by omega, by decide⟩ (by decide) (by decide)) (by omega)⟩
 case or => exact ⟨_, sg_br hA (sg_one (by omega) ⟨by omega, by decide⟩ (by decide) (by decide)) hB (by omega)⟩
 case gt => exact ⟨_, sg_op hB hA (by omega) (by decide) (by decide)⟩
 case ge => exact ⟨_, sg_op hB hA (by omega) (by decide) (by decide)⟩
 case ne => exact ⟨_, sg_sn (sg_op hA hB (op := 16) (by omega) (by decide) (by decide)) rfl (by omega) (by omega) (vOp_0 (by omega) 0 0) (by decide) (by decide)⟩
 all_goals exact ⟨_, sg_op hA hB (by decide) (by decide) (by decide)⟩
theorem sg_st {A : Int -> Cd} {n : Nat} {op x : Int} (hA : SgE A n 2 false) (hv : vOp op x 0 0) (ho : op ≠ 18 /\ op ≠ 19 /\ op ≠ 21) (h2 : popI op = 2) (h1 : pushI op = 0) : SgE (snC A (op, x)) (n + 1) 0 false :=
 sg_sn hA rfl (by omega) ho hv (by omega) (by omega)
include hv
theorem sg_E : ∀ e : E, e.fine -> e.inV vs -> ∃ n, SgE (codeE vs e) n 1 false
 | .int n, h, _ => ⟨1, sg_one (by omega) ⟨by omega, by rw [if_pos rfl]; have := h; simp only [E.fine] at this; omega⟩ (by decide) (by decide)⟩
 | .bool n, h, _ => ⟨1, sg_one (by omega) ⟨by omega, by rw [if_pos rfl]; have := h; simp only [E.fine] at this; omega⟩ (by decide) (by decide)⟩
 | .var s, _, h => ⟨1, sg_one (by omega) ⟨by omega, by rw [if_neg (by omega), if_pos (by omega)]; have := ixI_mem h; omega⟩ (by decide) (by decide)⟩
 | .name s, _, _ => by
   rcases nameI_rng s with e | e | e <;> exact ⟨1, by rw [codeE, e]; exact sg_one (by omega) (vOp_0 (by omega) 0 0) (by decide) (by decide)⟩
 | .field _ s e, h, g => let ⟨_, k⟩ := sg_E e h.2.1 g; ⟨_, sg_sn k rfl (by omega) (by omega) ⟨by omega, by rw [if_neg (by omega), if_neg (by omega), if_pos rfl]; exact fieldI_field h.1⟩ (by decide) (by decide)⟩
 | .un _ true e, h, g => let ⟨_, k⟩ := sg_E e h.1 g; ⟨_, sg_sn k rfl (by omega) (by decide) (vOp_0 (by decide) 0 0) (by decide) (by decide)⟩
 | .un _ false e, h, g => let ⟨_, k⟩ := sg_E e h.1 g; ⟨_, sg_sn k rfl (by omega) (by decide) (vOp_0 (by decide) 0 0) (by decide) (by decide)⟩
 | .bin _ o a b, h, g => let ⟨_, k⟩ := sg_E a h.1 g.1; let ⟨_, k'⟩ := sg_E b h.2.1 g.2; sg_bin k k'
theorem sg_S (b : Ss) (hf : b.fine) (hi : b.inV vs) : ∃ n s, SgE (codeS vs b) n 0 s := by
 fun_induction codeS vs b with
 | case1 => exact ⟨_, _, sg_nil⟩
 | case2 _ s e r ih =>
   obtain ⟨n, h⟩ := sg_E hv e hf.1.2.1 hi.1.2
   obtain ⟨m, t, g⟩ := ih hf.2 hi.2
   exact ⟨_, _, sg_sq (k := 0) (sg_sn h rfl (by omega) (by omega) ⟨by omega, by rw [if_neg (by omega), if_pos (by omega)]; have := ixI_mem hi.1.1; omega⟩ (by decide) (by decide)) g (by omega) (fun _ => rfl)⟩
 | case3 _ s a b r ih =>
   obtain ⟨n, h⟩ := sg_E hv a hf.1.2.1 hi.1.1
   obtain ⟨n', h'⟩ := sg_E hv b hf.1.2.2.2.1 hi.1.2
   obtain ⟨m, t, g⟩ := ih hf.2 hi.2
   exact ⟨_, _, sg_sq (k := 0) (sg_st (sg_sq h h' (by omega) (fun h => by cases h)) ⟨by omega, by rw [if_neg (by omega), if_neg (by omega), if_neg (by omega), if_pos rfl]; exact fieldI_store hf.1.1⟩ (by omega) (by decide) (by decide)) g (by omega) (fun _ => rfl)⟩
 | case4 _ a b r ih =>
   obtain ⟨n, h⟩ := sg_E hv a hf.1.1 hi.1.1
   obtain ⟨n', h'⟩ := sg_E hv b hf.1.2.2.1 hi.1.2
   obtain ⟨m, t, g⟩ := ih hf.2 hi.2
   exact ⟨_, _, sg_sq (k := 0) (sg_st (sg_sq h h' (by omega) (fun h => by cases h)) (vOp_0 (by omega) 0 0) (by omega) (by decide) (by decide)) g (by omega) (fun _ => rfl)⟩
 | case5 r ih =>
   obtain ⟨m, t, g⟩ := ih hf hi
   exact ⟨_, _, sg_sq sg_stop g (by omega) (fun _ => rfl)⟩
 | case6 _ c _ x _ y r ih1 ih2 ih3 =>
   obtain ⟨n, h⟩ := sg_E hv c hf.1.1 hi.1
   obtain ⟨m1, t1, g1⟩ := ih1 hf.2.1 hi.2.1.1
   obtain ⟨m2, t2, g2⟩ := ih2 hf.2.2.1 hi.2.1.2.1
   obtain ⟨m3, t3, g3⟩ := ih3 hf.2.2.2 hi.2.2
   exact ⟨_, _, sg_sq (sg_br h g1 g2 (by omega)) g3 (by omega) (fun _ => rfl)⟩
 | case7 _ c _ x r ih1 ih2 =>
   obtain ⟨n, h⟩ := sg_E hv c hf.1.1 hi.1
   obtain ⟨m1, t1, g1⟩ := ih1 hf.2.1 hi.2.1.1
   obtain ⟨m2, t2, g2⟩ := ih2 hf.2.2 hi.2.2
   exact ⟨_, _, sg_sq (sg_wh h g1) g2 (by omega) (fun _ => rfl)⟩
 | case8 => exact ⟨_, _, sg_nil⟩
end
end Go.Pm
end SCk
