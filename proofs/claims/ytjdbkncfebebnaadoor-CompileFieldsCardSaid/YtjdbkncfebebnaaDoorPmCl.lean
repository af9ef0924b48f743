/- Chapter 15, plain: whole programs. -/
import Derived.Test.YtjdbkncfebebnaaDoorPmCj
import Derived.Test.YtjdbkncfebebnaaDoorPmN10
import Derived.Test.YtjdbkncfebebnaaDoorPmCf
set_option linter.unusedSimpArgs false
set_option linter.unusedVariables false
section SCl
namespace Go.Pm
open Gr
def progC (vs : List ByteArray) (a b c : Hd) : Cd := sq (hdC vs a) (sq (hdC vs b) (hdC vs c)) 0
def ent0 (a : Hd) : Int := entV a 0
def ent1 (vs : List ByteArray) (a b : Hd) : Int := entV b (hdC vs a 0).length
def ent2 (vs : List ByteArray) (a b c : Hd) : Int := entV c (sq (hdC vs a) (hdC vs b) 0).length
structure Hg (C : Int -> Cd) (n : Nat) (D : Nat -> Int) : Prop where
 ln : Ln C n
 ok : ∀ p i, i < n -> vOp (opA (C p) i) (nA (C p) i) p (p + n - 1)
 pop : ∀ p i, i < n -> popI (opA (C p) i) <= D i
 flow : ∀ p i, i < n -> ∀ j ∈ sucQ (opA (C p) i) (nA (C p) i) (p + i), p <= j /\ j <= p + n - 1 /\ D (j - p).toNat = D i + (pushI (opA (C p) i) - popI (opA (C p) i))
 stp : ∀ p i, i < n -> opA (C p) i = 21 -> D i = 0
theorem hg_sq {A B : Int -> Cd} {n m : Nat} {DA DB : Nat -> Int} (a : Hg A n DA) (b : Hg B m DB) : Hg (sq A B) (n + m) (fun i => if i < n then DA i else DB (i - n)) := by
 have opl : ∀ p i, i < n -> opA (sq A B p) i = opA (A p) i /\ nA (sq A B p) i = nA (A p) i := fun p i h => opA_left (by rw [a.ln p]; exact h)
 have opr : ∀ p i, n <= i -> opA (sq A B p) i = opA (B (p + n)) (i - n) /\ nA (sq A B p) i = nA (B (p + n)) (i - n) := fun p i h => by
   have := opA_right (a := A p) (b := B (p + (A p).length)) (i := i) (by rw [a.ln p]; omega)
   rw [a.ln p] at this
   exact ⟨by rw [sq, a.ln p]; exact this.1, by rw [sq, a.ln p]; exact this.2⟩
 refine ⟨ln_sq a.ln b.ln, ?_, ?_, ?_, ?_⟩
 · intro p i hi
   by_cases h : i < n
   · rw [(opl p i h).1, (opl p i h).2]; exact vOp_mono (a.ok p i h) (by omega) (by omega)
   · rw [(opr p i (by omega)).1, (opr p i (by omega)).2]; exact vOp_mono (b.ok (p + n) (i - n) (by omega)) (by omega) (by omega)
 · intro p i hi
   show _ <= if i < n then DA i else DB (i - n)
   by_cases h : i < n
   · rw [(opl p i h).1, if_pos h]; exact a.pop p i h
   · rw [(opr p i (by omega)).1, if_neg h]; exact b.pop _ (i - n) (by omega)
 · intro p i hi j hj
   show _ /\ _ /\ (if (j - p).toNat < n then DA (j - p).toNat else DB ((j - p).toNat - n)) = (if i < n then DA i else DB (i - n)) + _
   by_cases h : i < n
   · rw [(opl p i h).1, (opl p i h).2] at hj
     rw [(opl p i h).1, if_pos h]
     obtain ⟨q1, q2, q3⟩ := a.flow p i h j hj
     rw [if_pos (by omega)]
     exact ⟨q1, by omega, q3⟩
   · rw [(opr p i (by omega)).1, (opr p i (by omega)).2, show p + (i : Int) = (p + n) + ((i - n : Nat) : Int) by omega] at hj
     rw [(opr p i (by omega)).1, if_neg h]
     obtain ⟨q1, q2, q3⟩ := b.flow (p + n) (i - n) (by omega) j hj
     rw [if_neg (by omega), show (j - p).toNat - n = (j - (p + n)).toNat by omega]
     exact ⟨by omega, by omega, q3⟩
 · intro p i hi h
   show (if i < n then DA i else DB (i - n)) = 0
   by_cases h' : i < n
   · rw [(opl p i h').1] at h; rw [if_pos h']; exact a.stp p i h' h
   · rw [(opr p i (by omega)).1] at h; rw [if_neg h']; exact b.stp _ (i - n) (by omega) h
theorem hg_hd {vs : List ByteArray} (hv : vs.length <= 16) (h : Hd) (hf : h.ss.fine) (hi : h.ss.inV vs) : ∃ n D, Hg (hdC vs h) n D /\ (h ≠ .none -> 0 < n /\ D 0 = 0) /\ (h = .none -> n = 0) := by
 cases h with
 | none => exact ⟨0, fun _ => 0, ⟨fun _ => rfl, fun _ _ h => by omega, fun _ _ h => by omega, fun _ _ h => by omega, fun _ _ h => by omega⟩, fun h => absurd rfl h, fun _ => rfl⟩
 | some f b =>
   obtain ⟨n, s, D, g⟩ := sg_S hv b hf hi
   have opl : ∀ p i, i < n -> opA (hdC vs (.some f b) p) i = opA (codeS vs b p) i /\ nA (hdC vs (.some f b) p) i = nA (codeS vs b p) i := fun p i h => opA_left (by rw [g.ln p]; exact h)
   have opr : ∀ p, opA (hdC vs (.some f b) p) n = 21 /\ nA (hdC vs (.some f b) p) n = 0 := fun p => by
     have := opA_right (a := codeS vs b p) (b := [(21, 0)]) (i := n) (by rw [g.ln p]; omega)
     rw [g.ln p, Nat.sub_self] at this
     exact this
   refine ⟨n + 1, D 0, ⟨ln_sn g.ln, ?_, ?_, ?_, ?_⟩, fun _ => ⟨by omega, g.beg 0⟩, fun h => by cases h⟩
   · intro p i hi
     by_cases h : i < n
     · rw [(opl p i h).1, (opl p i h).2]; exact vOp_mono (g.ok p i h) (by omega) (by omega)
     · obtain rfl : i = n := by omega
       rw [(opr p).1, (opr p).2]; exact ⟨by omega, by rw [if_neg (by omega), if_neg (by omega), if_neg (by omega), if_neg (by omega), if_neg (by omega)]⟩
   · intro p i hi
     by_cases h : i < n
     · rw [(opl p i h).1]; have := g.pop p 0 i h; omega
     · obtain rfl : i = n := by omega
       rw [(opr p).1, g.fin]; decide
   · intro p i hi j hj
     by_cases h : i < n
     · rw [(opl p i h).1, (opl p i h).2] at hj
       rw [(opl p i h).1]
       obtain ⟨q1, q2, q3⟩ := g.flow p 0 i h j hj
       exact ⟨q1, by omega, q3⟩
     · obtain rfl : i = n := by omega
       rw [(opr p).1, (opr p).2] at hj
       cases hj
   · intro p i hi h
     by_cases h' : i < n
     · rw [(opl p i h').1] at h; exact (g.stp p 0 i h' h).2
     · obtain rfl : i = n := by omega
       exact g.fin 0
theorem prog_good {vs : List ByteArray} (hv : vs.length <= 16) {a b c : Hd} (fa : a.ss.fine) (fb : b.ss.fine) (fc : c.ss.fine) (ia : a.ss.inV vs) (ib : b.ss.inV vs) (ic : c.ss.inV vs) :
   ∃ n D, Hg (sq (hdC vs a) (sq (hdC vs b) (hdC vs c))) n D /\ (ent0 a = -1 \/ (0 <= ent0 a /\ ent0 a < n /\ D (ent0 a).toNat = 0)) /\ (ent1 vs a b = -1 \/ (0 <= ent1 vs a b /\ ent1 vs a b < n /\ D (ent1 vs a b).toNat = 0)) /\ (ent2 vs a b c = -1 \/ (0 <= ent2 vs a b c /\ ent2 vs a b c < n /\ D (ent2 vs a b c).toNat = 0)) := by
 obtain ⟨na, Da, ga, pa, za⟩ := hg_hd hv a fa ia
 obtain ⟨nb, Db, gb, pb, zb⟩ := hg_hd hv b fb ib
 obtain ⟨nc, Dc, gc, pc, zc⟩ := hg_hd hv c fc ic
 refine ⟨_, _, hg_sq ga (hg_sq gb gc), ?_, ?_, ?_⟩
 · cases a with
   | none => exact .inl rfl
   | some f x =>
     obtain ⟨h1, h2⟩ := pa (by simp)
     refine .inr ⟨by simp [ent0, entV], by simp only [ent0, entV]; omega, ?_⟩
     show (if 0 < na then Da 0 else _) = 0
     rw [if_pos h1, h2]
 · have e : (hdC vs a 0).length = na := ga.ln 0
   cases b with
   | none => exact .inl rfl
   | some f x =>
     obtain ⟨h1, h2⟩ := pb (by simp)
     refine .inr ⟨by simp only [ent1, entV]; omega, by simp only [ent1, entV, e]; omega, ?_⟩
     show (if ((hdC vs a 0).length : Int).toNat < na then _ else if ((hdC vs a 0).length : Int).toNat - na < nb then _ else _) = 0
     rw [e, if_neg (by omega), if_pos (by omega)]
     simp only [ent1, entV, e]
     rw [show ((na : Nat) : Int).toNat - na = 0 by omega, h2]
 · have e : (sq (hdC vs a) (hdC vs b) 0).length = na + nb := ln_sq ga.ln gb.ln 0
   cases c with
   | none => exact .inl rfl
   | some f x =>
     obtain ⟨h1, h2⟩ := pc (by simp)
     refine .inr ⟨by simp only [ent2, entV]; omega, by simp only [ent2, entV, e]; omega, ?_⟩
     show (if ((sq (hdC vs a) (hdC vs b) 0).length : Int).toNat < na then _ else if ((sq (hdC vs a) (hdC vs b) 0).length : Int).toNat - na < nb then _ else _) = 0
     rw [e, if_neg (by omega), if_neg (by omega)]
     simp only [ent2, entV, e]
     rw [show ((na + nb : Nat) : Int).toNat - na - nb = 0 by omega, h2]
section
variable {C : Int -> Cd} {n : Nat} {D : Nat -> Int}
theorem vOp_opnd {op x : Int} {n : Nat} (h : vOp op x 0 (0 + n - 1)) : (known15 op && opnd op x n) = true := by
 obtain ⟨h0, h⟩ := h
 have hk : known15 op = true := by unfold known15; simp; omega
 unfold opnd
 rw [hk, Bool.true_and]
 split at h
 · rw [if_pos (by assumption)]; simp; omega
 rw [if_neg (by assumption)]
 split at h
 · rw [if_pos (by assumption)]; simp; omega
 rw [if_neg (by assumption)]
 split at h
 · rw [if_pos (by assumption)]; simp; omega
 rw [if_neg (by assumption)]
 split at h
 · rw [if_pos (by assumption)]; simp; omega
 rw [if_neg (by assumption)]
 split at h
 · rw [if_pos (by assumption)]; simp; omega
 rw [if_neg (by assumption)]; simp; exact h
theorem okC_of {c : Cd} : ∀ (m i : Nat), (∀ k, i <= k -> k < i + m -> okI c k = true) -> okC c m i = true
 | 0, _, _ => rfl
 | m + 1, i, h => by
   simp only [okC, Bool.and_eq_true]
   exact ⟨h i (by omega) (by omega), okC_of m (i + 1) fun k h1 h2 => h k (by omega) (by omega)⟩
theorem Hg.okC (g : Hg C n D) : okC (C 0) (C 0).length 0 = true :=
 okC_of _ _ fun k _ h => by
   have hl := g.ln 0
   have := vOp_opnd (g.ok 0 k (by omega))
   unfold okI
   rw [hl]; exact this
theorem Hg.cf (g : Hg C n D) {e : Nat} (he : e < n) (h0 : D e = 0) : CF (C 0) e D where
 zero := h0
 pops := fun i hi => g.pop 0 i (by have := Reach.lt (by rw [g.ln 0]; exact he) hi; rw [g.ln 0] at this; exact this)
 step := fun i hi j hj hl => by
   have hin : i < n := by have := Reach.lt (by rw [g.ln 0]; exact he) hi; rw [g.ln 0] at this; exact this
   rw [sucs_eq] at hj
   have := (g.flow 0 i hin j (by rw [show (0 : Int) + i = i by omega]; exact hj)).2.2
   rw [show ((j : Int) - 0).toNat = j by omega] at this
   exact this
theorem Hg.stop (g : Hg C n D) {i : Nat} (hi : i < n) (h : opA (C 0) i = 21) : D i = 0 := g.stp 0 i hi h
end
end Go.Pm
end SCl
