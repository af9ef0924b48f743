/- Chapter 15: the names of a generated program. Chapter 15: the reference's Compile. Chapter 15: the reference's Compile, whole. -/
import Derived.Test.YtdnnjabacgpfdaaGreatDoorPmCj
set_option linter.unusedSimpArgs false
set_option linter.unusedVariables false
section SCm
namespace Go.Pm
open Gr
theorem mem_addN (l : List ByteArray) (s x : ByteArray) : x ∈ addN l s ↔ x ∈ l \/ x = s := by
 unfold addN
 split
 · rename_i h
   constructor
   · exact .inl
   · rintro (h' | rfl); exact h'; exact h
 · simp
theorem mem_addAll (xs : List ByteArray) : ∀ (l : List ByteArray) (x : ByteArray), x ∈ addAll l xs ↔ x ∈ l \/ x ∈ xs := by
 induction xs with
 | nil => intro l x; simp [addAll]
 | cons s xs ih =>
   intro l x
   have := ih (addN l s) x
   simp only [addAll, List.foldl_cons] at this ⊢
   rw [this, mem_addN]
   simp only [List.mem_cons, or_assoc]
theorem nodup_addAll (xs : List ByteArray) : ∀ l : List ByteArray, l.Nodup -> (addAll l xs).Nodup := by
 induction xs with
 | nil => intro l h; simpa [addAll] using h
 | cons s xs ih =>
   intro l h
   simp only [addAll, List.foldl_cons]
   refine ih _ ?_
   unfold addN
   split
   · exact h
   · rename_i hs
     rw [List.nodup_append]
     exact ⟨h, by simp, fun a ha b hb => by simp only [List.mem_singleton] at hb; subst hb; rintro rfl; exact hs ha⟩
theorem nodup_len {α : Type} [BEq α] [LawfulBEq α] : ∀ (l m : List α), l.Nodup -> (∀ x ∈ l, x ∈ m) -> l.length <= m.length
 | [], m, _, _ => Nat.zero_le _
 | x :: l, m, h, hs => by
   rw [List.nodup_cons] at h
   have hx := hs x (by simp)
   have := nodup_len l (m.erase x) h.2 fun y hy => (List.mem_erase_of_ne (fun e => h.1 (by rw [<- e]; exact hy))).2 (hs y (by simp [hy]))
   rw [List.length_erase_of_mem hx] at this
   have := List.length_pos_of_mem hx
   simp only [List.length_cons]
   omega
theorem vars_E {vs : List ByteArray} : ∀ (e : E) (r : Fo), (∀ s ∈ (e.fo r).vars, s ∈ vs) -> e.inV vs /\ ∀ s ∈ r.vars, s ∈ vs
 | .int _, r, h => ⟨trivial, fun s hs => h s (by simp [E.fo, Fo.vars, hs])⟩
 | .bool _, r, h => ⟨trivial, fun s hs => h s (by simp [E.fo, Fo.vars, hs])⟩
 | .var v, r, h => ⟨h v (by simp [E.fo, Fo.vars]), fun s hs => h s (by simp [E.fo, Fo.vars, hs])⟩
 | .name _, r, h => ⟨trivial, fun s hs => h s (by simp [E.fo, Fo.vars, hs])⟩
 | .field _ _ e, r, h => by
   have := vars_E e .nil fun s hs => h s (by simp [E.fo, Fo.vars, hs])
   exact ⟨this.1, fun s hs => h s (by simp [E.fo, Fo.vars, hs])⟩
 | .un _ _ e, r, h => by
   have := vars_E e .nil fun s hs => h s (by simp [E.fo, Fo.vars, hs])
   exact ⟨this.1, fun s hs => h s (by simp [E.fo, Fo.vars, hs])⟩
 | .bin _ o a b, r, h => by
   have h1 := vars_E a (b.fo .nil) fun s hs => h s (by simp [E.fo, Fo.vars, hs])
   have h2 := vars_E b .nil h1.2
   exact ⟨⟨h1.1, h2.1⟩, fun s hs => h s (by simp [E.fo, Fo.vars, hs])⟩
theorem vars_S {vs : List ByteArray} : ∀ b : Ss, (∀ s ∈ b.fo.vars, s ∈ vs) -> b.inV vs
 | .nil, _ => trivial
 | .assign _ v e r, h => ⟨⟨h v (by simp [Ss.fo, Fo.vars]), (vars_E e .nil fun s hs => h s (by simp [Ss.fo, Fo.vars, hs])).1⟩, vars_S r fun s hs => h s (by simp [Ss.fo, Fo.vars, hs])⟩
 | .store _ _ a b r, h => by
   have h1 := vars_E a (b.fo .nil) fun s hs => h s (by simp [Ss.fo, Fo.vars, hs])
   exact ⟨⟨h1.1, (vars_E b .nil h1.2).1⟩, vars_S r fun s hs => h s (by simp [Ss.fo, Fo.vars, hs])⟩
 | .effect _ a b r, h => by
   have h1 := vars_E a (b.fo .nil) fun s hs => h s (by simp [Ss.fo, Fo.vars, hs])
   exact ⟨⟨h1.1, (vars_E b .nil h1.2).1⟩, vars_S r fun s hs => h s (by simp [Ss.fo, Fo.vars, hs])⟩
 | .stop r, h => vars_S r fun s hs => h s (by simp [Ss.fo, Fo.vars, hs])
 | .cond w _ c b r, h => by
   have h1 := vars_E c b.fo fun s hs => h s (by simp only [Ss.fo, Fo.vars]; simp [hs])
   exact ⟨h1.1, vars_S b h1.2, vars_S r fun s hs => h s (by simp only [Ss.fo, Fo.vars]; simp [hs])⟩
 | .block _ b r, h => ⟨vars_S b fun s hs => h s (by simp [Ss.fo, Fo.vars, hs]), vars_S r fun s hs => h s (by simp [Ss.fo, Fo.vars, hs])⟩
theorem vars_E4 : ∀ (e : E) (r : Fo), e.fine -> (∀ s ∈ r.vars, s ∈ varL) -> ∀ s ∈ (e.fo r).vars, s ∈ varL
 | .int _, r, _, h, s, hs => h s (by simpa [E.fo, Fo.vars] using hs)
 | .bool _, r, _, h, s, hs => h s (by simpa [E.fo, Fo.vars] using hs)
 | .var v, r, g, h, s, hs => by
   simp only [E.fo, Fo.vars, or_true, if_true, List.nil_append, List.cons_append, List.mem_cons] at hs
   rcases hs with rfl | hs
   · exact g
   · exact h s hs
 | .name _, r, _, h, s, hs => h s (by simpa [E.fo, Fo.vars] using hs)
 | .field _ _ e, r, g, h, s, hs => by
   simp only [E.fo, Fo.vars, Int.reduceEq, or_self, if_false, List.nil_append, List.mem_append] at hs
   rcases hs with hs | hs
   · exact vars_E4 e .nil g.2.1 (by simp [Fo.vars]) s hs
   · exact h s hs
 | .un _ _ e, r, g, h, s, hs => by
   simp only [E.fo, Fo.vars, Int.reduceEq, or_self, if_false, List.nil_append, List.mem_append] at hs
   rcases hs with hs | hs
   · exact vars_E4 e .nil g.1 (by simp [Fo.vars]) s hs
   · exact h s hs
 | .bin _ o a b, r, g, h, s, hs => by
   simp only [E.fo, Fo.vars, Int.reduceEq, or_self, if_false, List.nil_append, List.mem_append] at hs
   rcases hs with hs | hs
   · exact vars_E4 a _ g.1 (vars_E4 b .nil g.2.1 (by simp [Fo.vars])) s hs
   · exact h s hs
theorem vars_S4 (b : Ss) (hf : b.fine) : ∀ s ∈ b.fo.vars, s ∈ varL := by
 fun_induction Ss.fine b with
 | case1 => simp [Ss.fo, Fo.vars]
 | case2 _ v e r ih =>
   intro s hs
   simp only [Ss.fo, Fo.vars, true_or, if_true, List.cons_append, List.nil_append, List.mem_cons, List.mem_append] at hs
   rcases hs with rfl | hs | hs
   · exact hf.1.1
   · exact vars_E4 e .nil hf.1.2.1 (by simp [Fo.vars]) s hs
   · exact ih hf.2 s hs
 | case3 _ v a b r ih =>
   intro s hs
   simp only [Ss.fo, Fo.vars, Int.reduceEq, or_self, if_false, List.nil_append, List.mem_append] at hs
   rcases hs with hs | hs
   · exact vars_E4 a _ hf.1.2.1 (vars_E4 b .nil hf.1.2.2.2.1 (by simp [Fo.vars])) s hs
   · exact ih hf.2 s hs
 | case4 _ a b r ih =>
   intro s hs
   simp only [Ss.fo, Fo.vars, Int.reduceEq, or_self, if_false, List.nil_append, List.mem_append] at hs
   rcases hs with hs | hs
   · exact vars_E4 a _ hf.1.1 (vars_E4 b .nil hf.1.2.2.1 (by simp [Fo.vars])) s hs
   · exact ih hf.2 s hs
 | case5 r ih =>
   intro s hs
   simp only [Ss.fo, Fo.vars, Int.reduceEq, or_self, if_false, List.nil_append] at hs
   exact ih hf s hs
 | case6 _ c _ x _ y r ih1 ih2 ih3 =>
   intro s hs
   simp only [Ss.fo, Fo.vars, Int.reduceEq, Bool.false_eq_true, or_self, if_false, List.nil_append, List.mem_append] at hs
   rcases hs with hs | hs
   · refine vars_E4 c _ hf.1.1 ?_ s hs
     intro s hs
     simp only [Fo.vars, Int.reduceEq, or_self, if_false, List.nil_append, List.append_nil, List.mem_append] at hs
     rcases hs with hs | hs
     · exact ih1 hf.2.1 s hs
     · exact ih2 hf.2.2.1 s hs
   · exact ih3 hf.2.2.2 s hs
 | case7 _ c _ x r ih1 ih2 =>
   intro s hs
   simp only [Ss.fo, Fo.vars, Int.reduceEq, or_self, if_true, if_false, List.nil_append, List.mem_append] at hs
   rcases hs with hs | hs
   · refine vars_E4 c _ hf.1.1 ?_ s hs
     intro s hs
     simp only [Fo.vars, Int.reduceEq, or_self, if_false, List.nil_append, List.append_nil] at hs
     exact ih1 hf.2.1 s hs
   · exact ih2 hf.2.2 s hs
 | case8 => exact hf.elim
theorem hd_vars (h : Hd) : h.nd.vars = h.ss.fo.vars := by
 cases h <;> simp [Nd.vars, Hd.nd, Hd.k, Hd.ks, Hd.ss, Ss.fo, Fo.vars]
section
variable {a b c : Hd}
theorem rvars_in : a.ss.inV (rvars a.nd b.nd c.nd) /\ b.ss.inV (rvars a.nd b.nd c.nd) /\ c.ss.inV (rvars a.nd b.nd c.nd) := by
 have key : ∀ s, s ∈ rvars a.nd b.nd c.nd ↔ s ∈ a.ss.fo.vars \/ s ∈ b.ss.fo.vars \/ s ∈ c.ss.fo.vars := fun s => by
   unfold rvars
   rw [mem_addAll, hd_vars, hd_vars, hd_vars]
   simp
 exact ⟨vars_S _ fun s hs => (key s).2 (.inl hs), vars_S _ fun s hs => (key s).2 (.inr (.inl hs)), vars_S _ fun s hs => (key s).2 (.inr (.inr hs))⟩
theorem rvars_len4 (fa : a.ss.fine) (fb : b.ss.fine) (fc : c.ss.fine) : (rvars a.nd b.nd c.nd).length <= 5 := by
 refine nodup_len _ varL (nodup_addAll _ _ (by simp)) fun s hs => ?_
 unfold rvars at hs
 rw [mem_addAll, hd_vars, hd_vars, hd_vars] at hs
 simp only [List.not_mem_nil, false_or, List.mem_append] at hs
 rcases hs with hs | hs | hs
 · exact vars_S4 _ fa s hs
 · exact vars_S4 _ fb s hs
 · exact vars_S4 _ fc s hs
end
end Go.Pm
end SCm
section SCn
namespace Go.Pm
open F Gr
set_option maxHeartbeats 1000000
def DepIs (c : Cd) (e m : Int) : Prop := (e < 0 -> m = 0) /\ (0 <= e -> ∀ D, CF c e.toNat D -> Most c e.toNat D m)
theorem DepIs.unique {c : Cd} {e m m' : Int} {D : Nat -> Int} (hD : 0 <= e -> CF c e.toNat D) (h : DepIs c e m) (h' : DepIs c e m') : m = m' := by
 by_cases h0 : e < 0
 · rw [h.1 h0, h'.1 h0]
 · have := hD (by omega)
   exact Most.unique (h.2 (by omega) D this) (h'.2 (by omega) D this)
section
variable {d : D} {c : Cd} {e0 e1 e2 : Int}
theorem depth_ex (hd : IsCode d c) (hcl : c.length < 2^27) (hok : okC c c.length 0 = true) {h : Int} (h0 : 0 <= h) (h2 : h <= 2) (he : entA e0 e1 e2 h < c.length) :
   ∃ m, DepIs c (entA e0 e1 e2 h) m /\ Z base15 (.call 129 [pgD d e0 e1 e2, .int h] []) = some (.ret (.int m) []) := by
 have hf := okC_fits hok
 have hops : ∀ i, i < c.length -> 1 <= opA c i /\ opA c i <= 21 := fun i hi => (okI_op (okC_all _ _ hok i (by omega) (by omega))).1
 by_cases hn : entA e0 e1 e2 h < 0
 · have z1 := rdep_neg (e0 := e0) (e1 := e1) (e2 := e2) hd hcl hn
   have z2 := rdepth_of (e0 := e0) (e1 := e1) (e2 := e2) hd hops hcl h0 h2 (out := List.replicate c.length (-1)) (ok := true) (by simp) (fun i => by simp only [gD, List.getD_eq_getElem?_getD, List.getElem?_replicate]; split <;> simp) z1
   rw [rmax_neg c c.length c.length (Nat.le_refl _)] at z2
   exact ⟨0, ⟨fun _ => rfl, fun h => by omega⟩, z2⟩
 · obtain ⟨out, ok, s1, s2, s3⟩ := rdep_pos (e0 := e0) (e1 := e1) (e2 := e2) hd hf hops hcl (e := (entA e0 e1 e2 h).toNat) (by omega)
   rw [show (((entA e0 e1 e2 h).toNat : Nat) : Int) = entA e0 e1 e2 h by omega] at s3
   have z2 := rdepth_of (e0 := e0) (e1 := e1) (e2 := e2) hd hops hcl h0 h2 s1.len s2 s3
   exact ⟨_, ⟨fun h => absurd h hn, fun _ D hD => rmax_most (by omega) s1 D hD⟩, z2⟩
end
inductive PSt (e0 e1 e2 : Int) : S -> D -> Cd -> Prop
 | nil : PSt e0 e1 e2 [zP, .cells [.dat (.lit (.slice none 0 0)), .int e0, .int e1, .int e2]] (.lit (.slice none 0 0)) []
 | gr (c : Cd) (h : c ≠ []) : PSt e0 e1 e2 [zP, .cells [.gsl (icC c) c.length 2 2, .int e0, .int e1, .int e2], .tip (icC c).length] (.sl (icC c) c.length false) c
abbrev dFr (i : Int) : Fr := [(2, .ptr 0 0), (5, .ptr 1 0), (7, .int i)]
theorem PSt.code {e0 e1 e2 : Int} {σ : S} {d : D} {c : Cd} (h : PSt e0 e1 e2 σ d c) : IsCode d c := by
 cases h with
 | nil => exact isCode_nil
 | gr => exact isCode_sl _ false
section
variable {e0 e1 e2 m : Int} {σ : S} {d : D} {c : Cd}
theorem dl_ok0 (h : PSt e0 e1 e2 σ d c) (hz : Z base15 (.call 129 [pgD d e0 e1 e2, .int 0] []) = some (.ret (.int m) [])) (hm : ¬ 16 < m) : Z base15 (.loop 0 F122l1 (dFr 0) σ) = Z base15 (.loop 0 F122l1 (dFr 1) σ) := by
 have w1 := wrap64 1 (by omega)
 conv => lhs; rw [Z_loop_eq]
 simp only [pgD] at hz
 cases h <;> simp [loopStep, run_F122l1, w1, hz, hm, List.range_succ]
theorem dl_bad0 (h : PSt e0 e1 e2 σ d c) (hz : Z base15 (.call 129 [pgD d e0 e1 e2, .int 0] []) = some (.ret (.int m) [])) (hm : 16 < m) : Z base15 (.loop 0 F122l1 (dFr 0) σ) = some (.out .ret [(2, .ptr 0 0), (3, .int 15)] σ) := by
 rw [Z_loop_eq]
 simp only [pgD] at hz
 cases h <;> simp [loopStep, run_F122l1, hz, hm, List.range_succ]
theorem dl_ok1 (h : PSt e0 e1 e2 σ d c) (hz : Z base15 (.call 129 [pgD d e0 e1 e2, .int 1] []) = some (.ret (.int m) [])) (hm : ¬ 16 < m) : Z base15 (.loop 0 F122l1 (dFr 1) σ) = Z base15 (.loop 0 F122l1 (dFr 2) σ) := by
 have w1 := wrap64 2 (by omega)
 conv => lhs; rw [Z_loop_eq]
 simp only [pgD] at hz
 cases h <;> simp [loopStep, run_F122l1, w1, hz, hm, List.range_succ]
theorem dl_bad1 (h : PSt e0 e1 e2 σ d c) (hz : Z base15 (.call 129 [pgD d e0 e1 e2, .int 1] []) = some (.ret (.int m) [])) (hm : 16 < m) : Z base15 (.loop 0 F122l1 (dFr 1) σ) = some (.out .ret [(2, .ptr 0 0), (3, .int 15)] σ) := by
 rw [Z_loop_eq]
 simp only [pgD] at hz
 cases h <;> simp [loopStep, run_F122l1, hz, hm, List.range_succ]
theorem dl_ok2 (h : PSt e0 e1 e2 σ d c) (hz : Z base15 (.call 129 [pgD d e0 e1 e2, .int 2] []) = some (.ret (.int m) [])) (hm : ¬ 16 < m) : Z base15 (.loop 0 F122l1 (dFr 2) σ) = Z base15 (.loop 0 F122l1 (dFr 3) σ) := by
 have w1 := wrap64 3 (by omega)
 conv => lhs; rw [Z_loop_eq]
 simp only [pgD] at hz
 cases h <;> simp [loopStep, run_F122l1, w1, hz, hm, List.range_succ]
theorem dl_bad2 (h : PSt e0 e1 e2 σ d c) (hz : Z base15 (.call 129 [pgD d e0 e1 e2, .int 2] []) = some (.ret (.int m) [])) (hm : 16 < m) : Z base15 (.loop 0 F122l1 (dFr 2) σ) = some (.out .ret [(2, .ptr 0 0), (3, .int 15)] σ) := by
 rw [Z_loop_eq]
 simp only [pgD] at hz
 cases h <;> simp [loopStep, run_F122l1, hz, hm, List.range_succ]
theorem dl_end (h : PSt e0 e1 e2 σ d c) : Z base15 (.loop 0 F122l1 (dFr 3) σ) = some (.out (.exit 2) (dFr 3 ++ [(53, .bool false)]) σ) := by
 rw [Z_loop_eq]
 cases h <;> simp [loopStep, run_F122l1, List.range_succ]
theorem dl_all (h : PSt e0 e1 e2 σ d c) {m0 m1 m2 : Int} (z0 : Z base15 (.call 129 [pgD d e0 e1 e2, .int 0] []) = some (.ret (.int m0) [])) (z1 : Z base15 (.call 129 [pgD d e0 e1 e2, .int 1] []) = some (.ret (.int m1) []))
   (z2 : Z base15 (.call 129 [pgD d e0 e1 e2, .int 2] []) = some (.ret (.int m2) [])) :
   Z base15 (.loop 0 F122l1 (dFr 0) σ) = if 16 < m0 \/ 16 < m1 \/ 16 < m2 then some (.out .ret [(2, .ptr 0 0), (3, .int 15)] σ) else some (.out (.exit 2) (dFr 3 ++ [(53, .bool false)]) σ) := by
 by_cases a0 : 16 < m0
 · rw [dl_bad0 h z0 a0, if_pos (.inl a0)]
 rw [dl_ok0 h z0 a0]
 by_cases a1 : 16 < m1
 · rw [dl_bad1 h z1 a1, if_pos (.inr (.inl a1))]
 rw [dl_ok1 h z1 a1]
 by_cases a2 : 16 < m2
 · rw [dl_bad2 h z2 a2, if_pos (.inr (.inr a2))]
 rw [dl_ok2 h z2 a2, dl_end h, if_neg (by omega)]
end
section
variable {vs : List ByteArray} {a b c : Hd}
theorem c_end {R : Ob} {e0 e1 e2 : Int} {σ : S} {c : Cd} (h : CSt R e0 e1 e2 σ c) (hR : ∃ x y z : Nd, R = rbox x y z) : Z base15 (.loop 0 F122l0 (cFr vs 3) σ) = some (.out (.exit 0) (cFr vs 3 ++ [(13, .bool false)]) σ) := by
 obtain ⟨x, y, z, rfl⟩ := hR
 rw [Z_loop_eq]
 cases h <;> simp [loopStep, run_F122l0, List.range_succ]
theorem c_all (hv : vs.length < 2^40) (fa : a.fine) (fb : b.fine) (fc : c.fine) :
   ∃ σ, CSt (rbox a.nd b.nd c.nd) (ent0 a) (ent1 vs a b) (ent2 vs a b c) σ (progC vs a b c) /\
     Z base15 (.loop 0 F122l0 (cFr vs 0) [rbox a.nd b.nd c.nd, zP, .cells [.dat (.lit (.slice none 0 0)), .int (-1), .int (-1), .int (-1)]]) = some (.out (.exit 0) (cFr vs 3 ++ [(13, .bool false)]) σ) := by
 have key : ∀ h : Hd, h.fine -> ∃ L, L <= 8001 /\ Ln (hdC vs h) L := fun h f => by
   cases h with
   | none => exact ⟨0, by omega, fun _ => rfl⟩
   | some g x =>
     obtain ⟨n, hn, hn2⟩ := ln_S vs x
     have := f.size
     simp only [Hd.ss] at this
     exact ⟨n + 1, by omega, ln_sn hn⟩
 obtain ⟨la, ka, na⟩ := key a fa
 obtain ⟨lb, kb, nb⟩ := key b fb
 have s0 : ∃ σ, CSt (rbox a.nd b.nd c.nd) (ent0 a) (-1) (-1) σ (hdC vs a 0) /\ Z base15 (.loop 0 F122l0 (cFr vs 0) [rbox a.nd b.nd c.nd, zP, .cells [.dat (.lit (.slice none 0 0)), .int (-1), .int (-1), .int (-1)]]) = Z base15 (.loop 0 F122l0 (cFr vs 1) σ) := by
   cases a with
   | none => exact ⟨_, .nil, c_none0 (u := b.nd) (c := []) .nil⟩
   | some f x =>
     obtain ⟨L, hL, h⟩ := code_S hv x fa.fine (by have := fa.size; simp only [Hd.ss] at this; omega) f
     have := fa.size
     simp only [Hd.ss] at this
     obtain ⟨σ, h1, h2⟩ := c_some0 (u := b.nd) (v := b.nd) (w := c.nd) (e0 := -1) (e1 := -1) (e2 := -1) .nil h (by simp; omega)
     exact ⟨σ, by simpa [ent0, entV, hdC] using h1, h2⟩
 obtain ⟨σ0, c0, z0⟩ := s0
 have l0 := na 0
 have s1 : ∃ σ, CSt (rbox a.nd b.nd c.nd) (ent0 a) (ent1 vs a b) (-1) σ (hdC vs a 0 ++ hdC vs b (hdC vs a 0).length) /\ Z base15 (.loop 0 F122l0 (cFr vs 1) σ0) = Z base15 (.loop 0 F122l0 (cFr vs 2) σ) := by
   cases b with
   | none => exact ⟨_, by simpa [ent1, entV, hdC] using c0, c_none1 (u := a.nd) (v := a.nd) c0⟩
   | some f x =>
     obtain ⟨L, hL, h⟩ := code_S hv x fb.fine (by have := fb.size; simp only [Hd.ss] at this; omega) f
     have := fb.size
     simp only [Hd.ss] at this
     obtain ⟨σ, h1, h2⟩ := c_some1 (u := a.nd) (v := a.nd) (w := c.nd) c0 h (by omega)
     exact ⟨σ, by simpa [ent1, entV, hdC] using h1, h2⟩
 obtain ⟨σ1, c1, z1⟩ := s1
 have e1 : hdC vs a 0 ++ hdC vs b (hdC vs a 0).length = sq (hdC vs a) (hdC vs b) 0 := by simp [sq]
 rw [e1] at c1
 have l1 : (sq (hdC vs a) (hdC vs b) 0).length = la + lb := ln_sq na nb 0
 have s2 : ∃ σ, CSt (rbox a.nd b.nd c.nd) (ent0 a) (ent1 vs a b) (ent2 vs a b c) σ (sq (hdC vs a) (hdC vs b) 0 ++ hdC vs c (sq (hdC vs a) (hdC vs b) 0).length) /\ Z base15 (.loop 0 F122l0 (cFr vs 2) σ1) = Z base15 (.loop 0 F122l0 (cFr vs 3) σ) := by
   cases c with
   | none => exact ⟨_, by simpa [ent2, entV, hdC] using c1, c_none2 (u := a.nd) (v := b.nd) (w := b.nd) c1⟩
   | some f x =>
     obtain ⟨L, hL, h⟩ := code_S hv x fc.fine (by have := fc.size; simp only [Hd.ss] at this; omega) f
     have := fc.size
     simp only [Hd.ss] at this
     obtain ⟨σ, h1, h2⟩ := c_some2 (u := a.nd) (v := b.nd) (w := b.nd) c1 h (by omega)
     exact ⟨σ, by simpa [ent2, entV, hdC] using h1, h2⟩
 obtain ⟨σ2, c2, z2⟩ := s2
 have e2 : sq (hdC vs a) (hdC vs b) 0 ++ hdC vs c (sq (hdC vs a) (hdC vs b) 0).length = progC vs a b c := by
   unfold progC
   simp only [sq, List.append_assoc, List.length_append]
   rw [show ((((hdC vs a 0).length + (hdC vs b (0 + (hdC vs a 0).length)).length : Nat)) : Int) = 0 + (hdC vs a 0).length + (hdC vs b (0 + (hdC vs a 0).length)).length by omega]
 rw [e2] at c2
 exact ⟨σ2, c2, z0.trans (z1.trans (z2.trans (c_end c2 ⟨_, _, _, rfl⟩)))⟩
end
end Go.Pm
end SCn
section SCo
namespace Go.Pm
open F Gr
set_option maxHeartbeats 1000000
def codeD : Cd -> D
 | [] => .lit (.slice none 0 0)
 | x :: c => .sl (icC (x :: c)) (x :: c).length false
theorem codeD_is (c : Cd) : IsCode (codeD c) c := by
 cases c with
 | nil => exact isCode_nil
 | cons x c => exact isCode_sl _ false
theorem codeD_ne {c : Cd} (h : c ≠ []) : codeD c = .sl (icC c) c.length false := by
 cases c with
 | nil => exact absurd rfl h
 | cons x c => rfl
def compV (c : Cd) (e0 e1 e2 m0 m1 m2 : Int) : V :=
 if 400 < c.length then .tup [pgD (.lit (.slice none 0 0)) 0 0 0, .int 2]
 else if 16 < m0 \/ 16 < m1 \/ 16 < m2 then .tup [pgD (.lit (.slice none 0 0)) 0 0 0, .int 15]
 else .tup [pgD (codeD c) e0 e1 e2, .int 0]
section
variable {a b c : Hd}
theorem progC_len {vs : List ByteArray} (fa : a.fine) (fb : b.fine) (fc : c.fine) : (progC vs a b c).length <= 30000 := by
 have key : ∀ h : Hd, h.fine -> ∃ L, L <= 8001 /\ Ln (hdC vs h) L := fun h f => by
   cases h with
   | none => exact ⟨0, by omega, fun _ => rfl⟩
   | some g x =>
     obtain ⟨n, hn, hn2⟩ := ln_S vs x
     have := f.size
     simp only [Hd.ss] at this
     exact ⟨n + 1, by omega, ln_sn hn⟩
 obtain ⟨la, ka, na⟩ := key a fa
 obtain ⟨lb, kb, nb⟩ := key b fb
 obtain ⟨lc, kc, nc⟩ := key c fc
 have := ln_sq na (ln_sq nb nc) 0
 unfold progC
 omega
theorem hd_size (h : Hd) (f : h.fine) : h.nd.ks.size <= 2000 := by
 have := f.size
 rw [hd_ks, hd_ks_ss]; exact this
theorem compileR_Z (fa : a.fine) (fb : b.fine) (fc : c.fine) :
   ∃ m0 m1 m2 : Int, DepIs (progC (rvars a.nd b.nd c.nd) a b c) (ent0 a) m0 /\ DepIs (progC (rvars a.nd b.nd c.nd) a b c) (ent1 (rvars a.nd b.nd c.nd) a b) m1 /\ DepIs (progC (rvars a.nd b.nd c.nd) a b c) (ent2 (rvars a.nd b.nd c.nd) a b c) m2 /\
     Z base15 (.call 122 [.dat (ru a.nd b.nd c.nd)] []) = some (.ret (compV (progC (rvars a.nd b.nd c.nd) a b c) (ent0 a) (ent1 (rvars a.nd b.nd c.nd) a b) (ent2 (rvars a.nd b.nd c.nd) a b c) m0 m1 m2) []) := by
 have l4 := rvars_len4 fa.fine fb.fine fc.fine
 have sa := hd_size a fa
 have sb := hd_size b fb
 have sc := hd_size c fc
 have zv := Z_sub sub_base14v_base15 (rVariables_Z (a := a.nd) (b := b.nd) (c := c.nd) (by omega) (by omega) (by omega))
 obtain ⟨ia, ib, ic⟩ := rvars_in (a := a) (b := b) (c := c)
 obtain ⟨n, D, g, p0, p1, p2⟩ := prog_good (vs := rvars a.nd b.nd c.nd) (by omega) fa.fine fb.fine fc.fine ia ib ic
 obtain ⟨σ, hst, hloop⟩ := c_all (vs := rvars a.nd b.nd c.nd) (by omega) fa fb fc
 have hlen := progC_len (vs := rvars a.nd b.nd c.nd) fa fb fc
 have hn : (progC (rvars a.nd b.nd c.nd) a b c).length = n := g.ln 0
 have hok := g.okC
 rw [show sq (hdC (rvars a.nd b.nd c.nd) a) (sq (hdC (rvars a.nd b.nd c.nd) b) (hdC (rvars a.nd b.nd c.nd) c)) 0 = progC (rvars a.nd b.nd c.nd) a b c from rfl] at hok
 generalize rvars a.nd b.nd c.nd = vs at *
 generalize hC : progC vs a b c = C at *
 generalize hE0 : ent0 a = e0 at *
 generalize hE1 : ent1 vs a b = e1 at *
 generalize hE2 : ent2 vs a b c = e2 at *
 obtain ⟨m0, d0, z0⟩ := depth_ex (d := codeD C) (e0 := e0) (e1 := e1) (e2 := e2) (codeD_is C) (by omega) hok (h := 0) (by omega) (by omega) (by simp only [entA, if_true]; omega)
 obtain ⟨m1, d1, z1⟩ := depth_ex (d := codeD C) (e0 := e0) (e1 := e1) (e2 := e2) (codeD_is C) (by omega) hok (h := 1) (by omega) (by omega) (by simp only [entA, Int.reduceEq, if_false, if_true]; omega)
 obtain ⟨m2, d2, z2⟩ := depth_ex (d := codeD C) (e0 := e0) (e1 := e1) (e2 := e2) (codeD_is C) (by omega) hok (h := 2) (by omega) (by omega) (by simp only [entA, Int.reduceEq, if_false]; omega)
 simp only [entA, if_true, Int.reduceEq, if_false] at d0 d1 d2
 refine ⟨m0, m1, m2, d0, d1, d2, ?_⟩
 have hloop' := (Z_loop_cong (prog := base15) (k := 0) (b := F122l0) (fr := [(1, .ptr 0 0), (2, .ptr 1 0), (4, .dat (strD vs)), (5, .ptr 2 0), (6, .int 0)]) (σ := [rbox a.nd b.nd c.nd, zP, .cells [.dat (.lit (.slice none 0 0)), .int (-1), .int (-1), .int (-1)]]) (by simp [cFr, List.range_succ])).trans hloop
 simp only [rbox, zP, Nd.d, hd_k, hd_n, hd_s, hd_f, hd_ks, cFr, List.cons_append, List.nil_append] at hloop'
 simp only [ru, Nd.d, hd_k, hd_n, hd_s, hd_f, hd_ks] at zv
 refine Z_call (pf := F122) rfl rfl ?_
 unfold compV
 cases hst with
 | nil =>
   simp only [rbox, zP, Nd.d, hd_k, hd_n, hd_s, hd_f, hd_ks] at hloop'
   have hd := dl_all (PSt.nil (e0 := e0) (e1 := e1) (e2 := e2)) z0 z1 z2
   have h400 : ¬ 400 < ([] : Cd).length := by simp
   rw [if_neg h400]
   replace hd := (Z_loop_cong (prog := base15) (k := 0) (b := F122l1) (fr := [(2, .ptr 1 0), (5, .ptr 2 0), (7, .int 0)]) (σ := [rbox a.nd b.nd c.nd, zP, .cells [.dat (.lit (.slice none 0 0)), .int e0, .int e1, .int e2]]) (by simp [dFr, List.range_succ])).trans hd
   simp only [dFr, zP, rbox, Nd.d, hd_k, hd_n, hd_s, hd_f, hd_ks] at hd
   by_cases hb : 16 < m0 \/ 16 < m1 \/ 16 < m2
   · rw [if_pos hb] at hd ⊢
     simp [F122, ru, Nd.d, zv, hloop', hd, pgD, len_nil, List.range_succ]
   · rw [if_neg hb] at hd ⊢
     simp [F122, ru, Nd.d, zv, hloop', hd, pgD, codeD, len_nil, List.range_succ]
 | gr _ hne =>
   simp only [rbox, zP, Nd.d, hd_k, hd_n, hd_s, hd_f, hd_ks] at hloop'
   rw [codeD_ne hne] at z0 z1 z2 ⊢
   have hd := dl_all (PSt.gr (e0 := e0) (e1 := e1) (e2 := e2) C hne) z0 z1 z2
   replace hd := (Z_loop_cong (prog := base15) (k := 0) (b := F122l1) (fr := [(2, .ptr 1 0), (5, .ptr 2 0), (7, .int 0)]) (σ := [rbox a.nd b.nd c.nd, zP, .cells [.gsl (icC C) C.length 2 3, .int e0, .int e1, .int e2], .tip (icC C).length]) (by simp [dFr, List.range_succ])).trans hd
   simp only [dFr, zP, rbox, Nd.d, hd_k, hd_n, hd_s, hd_f, hd_ks, icC_length] at hd
   by_cases h4 : 400 < C.length
   · rw [if_pos h4]
     have h4' : (400 : Int) < C.length := by omega
     simp [F122, ru, Nd.d, zv, hloop', pgD, len_gsl, h4', List.range_succ]
   · rw [if_neg h4]
     have h4' : ¬ (400 : Int) < C.length := by omega
     by_cases hb : 16 < m0 \/ 16 < m1 \/ 16 < m2
     · rw [if_pos hb] at hd ⊢
       simp [F122, ru, Nd.d, zv, hloop', hd, pgD, len_gsl, h4', List.range_succ]
     · rw [if_neg hb] at hd ⊢
       simp [F122, ru, Nd.d, zv, hloop', hd, pgD, len_gsl, h4', List.range_succ]
end
end Go.Pm
end SCo
