/- Chapter 15: the names of a generated program. Chapter 15: the reference's Compile. Chapter 15: the reference's Compile, whole. -/
import Derived.Test.YtjdbkncfebebnaaDoorPmCl
set_option linter.unusedSimpArgs false
set_option linter.unusedVariables false
section SCm
namespace Go.Pm
open Gr
theorem mem_addN (l : List ByteArray) (s x : ByteArray) : x ∈ addN l s ↔ x ∈ l \/ x = s := by
 unfold addN
 split
 · rename_i h
   constructor
   · exact .inl
   · rintro (h' | rfl); exact h'; exact h
 · simp
theorem mem_addAll (xs : List ByteArray) : ∀ (l : List ByteArray) (x : ByteArray), x ∈ addAll l xs ↔ x ∈ l \/ x ∈ xs := by
 induction xs with
 | nil => intro l x; simp [addAll]
 | cons s xs ih =>
   intro l x
   have := ih (addN l s) x
   simp only [addAll, List.foldl_cons] at this ⊢
   rw [this, mem_addN]
   simp only [List.mem_cons, or_assoc]
theorem nodup_addAll (xs : List ByteArray) : ∀ l : List ByteArray, l.Nodup -> (addAll l xs).Nodup := by
 induction xs with
 | nil => intro l h; simpa [addAll] using h
 | cons s xs ih =>
   intro l h
   simp only [addAll, List.foldl_cons]
   refine ih _ ?_
   unfold addN
   split
   · exact h
   · rename_i hs
     rw [List.nodup_append]
     exact ⟨h, by simp, fun a ha b hb => by simp only [List.mem_singleton] at hb; subst hb; rintro rfl; exact hs ha⟩
theorem nodup_len {α : Type} [BEq α] [LawfulBEq α] : ∀ (l m : List α), l.Nodup -> (∀ x ∈ l, x ∈ m) -> l.length <= m.length
 | [], m, _, _ => Nat.zero_le _
 | x :: l, m, h, hs => by
   rw [List.nodup_cons] at h
   have hx := hs x (by simp)
   have := nodup_len l (m.erase x) h.2 fun y hy => (List.mem_erase_of_ne (fun e => h.1 (by rw [<- e]; exact hy))).2 (hs y (by simp [hy]))
   rw [List.length_erase_of_mem hx] at this
   have := List.length_pos_of_mem hx
   simp only [List.length_cons]
   omega
theorem vars_E {vs : List ByteArray} : ∀ (e : E) (r : Fo), (∀ s ∈ (e.fo r).vars, s ∈ vs) -> e.inV vs /\ ∀ s ∈ r.vars, s ∈ vs
 | .int _, r, h => ⟨trivial, fun s hs => h s (by simp [E.fo, Fo.vars, hs])⟩
 | .bool _, r, h => ⟨trivial, fun s hs => h s (by simp [E.fo, Fo.vars, hs])⟩
 | .var v, r, h => ⟨h v (by simp [E.fo, Fo.vars]), fun s hs => h s (by simp [E.fo, Fo.vars, hs])⟩
 | .name _, r, h => ⟨trivial, fun s hs => h s (by simp [E.fo, Fo.vars, hs])⟩
 | .field _ _ e, r, h => by
   have := vars_E e .nil fun s hs => h s (by simp [E.fo, Fo.vars, hs])
   exact ⟨this.1, fun s hs => h s (by simp [E.fo, Fo.vars, hs])⟩
 | .un _ _ e, r, h => by
   have := vars_E e .nil fun s hs => h s (by simp [E.fo, Fo.vars, hs])
   exact ⟨this.1, fun s hs => h s (by simp [E.fo, Fo.vars, hs])⟩
 | .bin _ o a b, r, h => by
   have h1 := vars_E a (b.fo .nil) fun s hs => h s (by simp [E.fo, Fo.vars, hs])
   have h2 := vars_E b .nil h1.2
   exact ⟨⟨h1.1, h2.1⟩, fun s hs => h s (by simp [E.fo, Fo.vars, hs])⟩
theorem vars_S {vs : List ByteArray} : ∀ b : Ss, (∀ s ∈ b.fo.vars, s ∈ vs) -> b.inV vs
 | .nil, _ => trivial
 | .assign _ v e r, h => ⟨⟨h v (by simp [Ss.fo, Fo.vars]), (vars_E e .nil fun s hs => h s (by simp [Ss.fo, Fo.vars, hs])).1⟩, vars_S r fun s hs => h s (by simp [Ss.fo, Fo.vars, hs])⟩
 | .store _ _ a b r, h => by
   have h1 := vars_E a (b.fo .nil) fun s hs => h s (by simp [Ss.fo, Fo.vars, hs])
   exact ⟨⟨h1.1, (vars_E b .nil h1.2).1⟩, vars_S r fun s hs => h s (by simp [Ss.fo, Fo.vars, hs])⟩
 | .effect _ a b r, h => by
   have h1 := vars_E a (b.fo .nil) fun s hs => h s (by simp [Ss.fo, Fo.vars, hs])
   exact ⟨⟨h1.1, (vars_E b .nil h1.2).1⟩, vars_S r fun s hs => h s (by simp [Ss.fo, Fo.vars, hs])⟩
 | .stop r, h => vars_S r fun s hs => h s (by simp [Ss.fo, Fo.vars, hs])
 | .cond w _ c b r, h => by
   have h1 := vars_E c b.fo fun s hs => h s (by simp only [Ss.fo, Fo.vars]; simp [hs])
   exact ⟨h1.1, vars_S b h1.2, vars_S r fun s hs => h s (by simp only [Ss.fo, Fo.vars]; simp [hs])⟩
 | .block _ b r, h => ⟨vars_S b fun s hs => h s (by simp [Ss.fo, Fo.vars, hs]), vars_S r fun s hs => h s (by simp [Ss.fo, Fo.vars, hs])⟩
theorem vars_E4 : ∀ (e : E) (r : Fo), e.fine -> (∀ s ∈ r.vars, s ∈ varL) -> ∀ s ∈ (e.fo r).vars, s ∈ varL
 | .int _, r, _, h, s, hs => h s (by simpa [E.fo, Fo.vars] using hs)
 | .bool _, r, _, h, s, hs => h s (by simpa [E.fo, Fo.vars] using hs)
 | .var v, r, g, h, s, hs => by
   simp only [E.fo, Fo.vars, or_true, if_true, List.nil_append, List.cons_append, List.mem_cons] at hs
   rcases hs with rfl | hs
   · exact g
   · exact h s hs
 | .name _, r, _, h, s, hs => h s (by simpa [E.fo, Fo.vars] using hs)
 | .field _ _ e, r, g, h, s, hs => by
   simp only [E.fo, Fo.vars, Int.reduceEq, or_self, if_false, List.nil_append, List.mem_append] at hs
   rcases hs with hs | hs
   · exact vars_E4 e .nil g.2.1 (by simp [Fo.vars]) s hs
   · exact h s hs
 | .un _ _ e, r, g, h, s, hs => by
   simp only [E.fo, Fo.vars, Int.reduceEq, or_self, if_false, List.nil_append, List.mem_append] at hs
   rcases hs with hs | hs
   · exact vars_E4 e .nil g.1 (by simp [Fo.vars]) s hs
   · exact h s hs
 | .bin _ o a b, r, g, h, s, hs => by
   simp only [E.fo, Fo.vars, Int.reduceEq, or_self, if_false, List.nil_append, List.mem_append] at hs
   rcases hs with hs | hs
   · exact vars_E4 a _ g.1 (vars_E4 b .nil g.2.1 (by simp [Fo.vars])) s hs
   · exact h s hs
theorem vars_S4 (b : Ss) (hf : b.fine) : ∀ s ∈ b.fo.vars, s ∈ varL := by
 fun_induction Ss.fine b with
 | case1 => simp [Ss.fo, Fo.vars]
 | case2 _ v e r ih =>
   intro s hs
   simp only [Ss.fo, Fo.vars, true_or, if_true, List.cons_append, List.nil_append, List.mem_cons, List.mem_append] at hs
   rcases hs with rfl | hs | hs
   · exact hf.1.1
   · exact vars_E4 e .nil hf.1.2.1 (by simp [Fo.vars]) s hs
   · exact ih hf.2 s hs
 | case3 _ v a b r ih =>
   intro s hs
   simp only [Ss.fo, Fo.vars, Int.reduceEq, or_self, if_false, List.nil_append, List.mem_append] at hs
   rcases hs with hs | hs
   · exact vars_E4 a _ hf.1.2.1 (vars_E4 b .nil hf.1.2.2.2.1 (by simp [Fo.vars])) s hs
   · exact ih hf.2 s hs
 | case4 _ a b r ih =>
   intro s hs
   simp only [Ss.fo, Fo.vars, Int.reduceEq, or_self, if_false, List.nil_append, List.mem_append] at hs
   rcases hs with hs | hs
   · exact vars_E4 a _ hf.1.1 (vars_E4 b .nil hf.1.2.2.1 (by simp [Fo.vars])) s hs
   · exact ih hf.2 s hs
 | case5 r ih =>
   intro s hs
   simp only [Ss.fo, Fo.vars, Int.reduceEq, or_self, if_false, List.nil_append] at hs
   exact ih hf s hs
 | case6 _ c _ x _ y r ih1 ih2 ih3 =>
   intro s hs
   simp only [Ss.fo, Fo.vars, Int.reduceEq, Bool.false_eq_true, or_self, if_false, List.nil_append, List.mem_append] at hs
   rcases hs with hs | hs
   · refine vars_E4 c _ hf.1.1 ?_ s hs
     intro s hs
     simp only [Fo.vars, Int.reduceEq, or_self, if_false, List.nil_append, List.append_nil, List.mem_append] at hs
     rcases hs with hs | hs
     · exact ih1 hf.2.1 s hs
     · exact ih2 hf.2.2.1 s hs
   · exact ih3 hf.2.2.2 s hs
 | case7 _ c _ x r ih1 ih2 =>
   intro s hs
   simp only [Ss.fo, Fo.vars, Int.reduceEq, or_self, if_true, if_false, List.nil_append, List.mem_append] at hs
   rcases hs with hs | hs
   · refine vars_E4 c _ hf.1.1 ?_ s hs
     intro s hs
     simp only [Fo.vars, Int.reduceEq, or_self, if_false, List.nil_append, List.append_nil] at hs
     exact ih1 hf.2.1 s hs
   · exact ih2 hf.2.2 s hs
 | case8 => exact hf.elim
theorem hd_vars (h : Hd) : h.nd.vars = h.ss.fo.vars := by
 cases h <;> simp [Nd.vars, Hd.nd, Hd.k, Hd.ks, Hd.ss, Ss.fo, Fo.vars]
section
variable {a b c : Hd}
theorem rvars_in : a.ss.inV (rvars a.nd b.nd c.nd) /\ b.ss.inV (rvars a.nd b.nd c.nd) /\ c.ss.inV (rvars a.nd b.nd c.nd) := by
 have key : ∀ s, s ∈ rvars a.nd b.nd c.nd ↔ s ∈ a.ss.fo.vars \/ s ∈ b.ss.fo.vars \/ s ∈ c.ss.fo.vars := fun s => by
   unfold rvars
   rw [mem_addAll, hd_vars, hd_vars, hd_vars]
   simp
 exact ⟨vars_S _ fun s hs => (key s).2 (.inl hs), vars_S _ fun s hs => (key s).2 (.inr (.inl hs)), vars_S _ fun s hs => (key s).2 (.inr (.inr hs))⟩
theorem rvars_len4 (fa : a.ss.fine) (fb : b.ss.fine) (fc : c.ss.fine) : (rvars a.nd b.nd c.nd).length <= 5 := by
 refine nodup_len _ varL (nodup_addAll _ _ (by simp)) fun s hs => ?_
 unfold rvars at hs
 rw [mem_addAll, hd_vars, hd_vars, hd_vars] at hs
 simp only [List.not_mem_nil, false_or, List.mem_append] at hs
 rcases hs with hs | hs | hs
 · exact vars_S4 _ fa s hs
 · exact vars_S4 _ fb s hs
 · exact vars_S4 _ fc s hs
end
end Go.Pm
end SCm
section SCn
namespace Go.Pm
open F Gr
set_option maxHeartbeats 1000000
def DepIs (c : Cd) (e m : Int) : Prop := (e < 0 -> m = 0) /\ (0 <= e -> ∀ D, CF c e.toNat D -> Most c e.toNat D m)
theorem DepIs.unique {c : Cd} {e m m' : Int} {D : Nat -> Int} (hD : 0 <= e -> CF c e.toNat D) (h : DepIs c e m) (h' : DepIs c e m') : m = m' := by
 by_cases h0 : e < 0
 · rw [h.1 h0, h'.1 h0]
 · have := hD (by omega)
   exact Most.unique (h.2 (by omega) D this) (h'.2 (by omega) D this)
inductive PSt (e0 e1 e2 : Int) : S -> D -> Cd -> Prop
 | nil : PSt e0 e1 e2 [zP, .cells [.dat (.lit (.slice none 0 0)), .int e0, .int e1, .int e2]] (.lit (.slice none 0 0)) []
 | gr (c : Cd) (h : c ≠ []) : PSt e0 e1 e2 [zP, .cells [.gsl (icC c) c.length 2 2, .int e0, .int e1, .int e2], .tip (icC c).length] (.sl (icC c) c.length false) c
theorem PSt.code {e0 e1 e2 : Int} {σ : S} {d : D} {c : Cd} (h : PSt e0 e1 e2 σ d c) : IsCode d c := by
 cases h with
 | nil => exact isCode_nil
 | gr => exact isCode_sl _ false
end Go.Pm
end SCn
section SCo
namespace Go.Pm
open F Gr
set_option maxHeartbeats 1000000
def codeD : Cd -> D
 | [] => .lit (.slice none 0 0)
 | x :: c => .sl (icC (x :: c)) (x :: c).length false
theorem codeD_is (c : Cd) : IsCode (codeD c) c := by
 cases c with
 | nil => exact isCode_nil
 | cons x c => exact isCode_sl _ false
theorem codeD_ne {c : Cd} (h : c ≠ []) : codeD c = .sl (icC c) c.length false := by
 cases c with
 | nil => exact absurd rfl h
 | cons x c => rfl
def compV (c : Cd) (e0 e1 e2 m0 m1 m2 : Int) : V :=
 if 400 < c.length then .tup [pgD (.lit (.slice none 0 0)) 0 0 0, .int 2]
 else if 16 < m0 \/ 16 < m1 \/ 16 < m2 then .tup [pgD (.lit (.slice none 0 0)) 0 0 0, .int 15]
 else .tup [pgD (codeD c) e0 e1 e2, .int 0]
section
variable {a b c : Hd}
theorem progC_len {vs : List ByteArray} (fa : a.fine) (fb : b.fine) (fc : c.fine) : (progC vs a b c).length <= 30000 := by
 have key : ∀ h : Hd, h.fine -> ∃ L, L <= 8001 /\ Ln (hdC vs h) L := fun h f => by
   cases h with
   | none => exact ⟨0, by omega, fun _ => rfl⟩
   | some g x =>
     obtain ⟨n, hn, hn2⟩ := ln_S vs x
     have := f.size
     simp only [Hd.ss] at this
     exact ⟨n + 1, by omega, ln_sn hn⟩
 obtain ⟨la, ka, na⟩ := key a fa
 obtain ⟨lb, kb, nb⟩ := key b fb
 obtain ⟨lc, kc, nc⟩ := key c fc
 have := ln_sq na (ln_sq nb nc) 0
 unfold progC
 omega
theorem hd_size (h : Hd) (f : h.fine) : h.nd.ks.size <= 2000 := by
 have := f.size
 rw [hd_ks, hd_ks_ss]; exact this
end
end Go.Pm
end SCo
