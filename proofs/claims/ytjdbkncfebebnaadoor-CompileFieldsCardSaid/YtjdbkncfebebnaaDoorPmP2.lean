/- Chapter 15, plain: the analysis comes to its end. Chapter 15, plain: the reference's way: rounds over all instructions until nothing changes. Chapter 15, plain: both analyses say the same. -/
import Derived.Test.YtjdbkncfebebnaaDoorPmEt
set_option linter.unusedSimpArgs false
set_option linter.unusedVariables false
section SP2
namespace Go.Pm.Gr
theorem fold_inv {c : Cd} {e i : Nat} : ∀ (l pre : List Int) (a : An) (d : Int), Inv c e (some i) pre a -> d = aft c i (gD a.ds i - 1) -> (∀ j ∈ l, j ∈ sucs c i /\ 0 <= j /\ j <= c.length) ->
   Inv c e (some i) (pre ++ l) (l.foldl (one c.length d) a) /\ gD (l.foldl (one c.length d) a).ds i = gD a.ds i
 | [], pre, a, d, h, _, _ => by simpa using h
 | j :: l, pre, a, d, h, hd, hl => by
   obtain ⟨h1, h2⟩ := one_inv h (hl j (by simp)).1 (hl j (by simp)).2
   rw [<- hd] at h1 h2
   have := fold_inv l (pre ++ [j]) (one c.length d a j) d h1 (by rw [h2]; exact hd) (fun x hx => hl x (by simp [hx]))
   rw [h2] at this
   simpa using this
theorem stp_inv {c : Cd} {e i : Nat} {r : List Nat} {a : An} (hf : Fits c) (h : Inv c e none [] a) (ho : a.op = r ++ [i]) : Inv c e none [] (stp c a i r) := by
 have hnd := h.nodup
 rw [ho, List.nodup_append] at hnd
 have hir : i ∉ r := fun hh => hnd.2.2 i hh i (by simp) rfl
 have hio : i ∈ a.op := by rw [ho]; simp
 obtain ⟨hil, hi0⟩ := h.opn i hio
 obtain ⟨hp1, hp2⟩ := h.pos i hil hi0
 -- what is reached and not open any more was so, or is i
 have back : ∀ k, k ∉ r -> k = i \/ k ∉ a.op := fun k hk => by
   by_cases hki : k = i
   · exact .inl hki
   · right; rw [ho]; simp [hk, hki]
 have h0 : Inv c e (some i) [] { a with breaks := a.breaks || decide (gD a.ds i - 1 < popI (opA c i)), depth := max a.depth (aft c i (gD a.ds i - 1)), op := r } := by
   refine ⟨h.len, hnd.1, fun k hk => h.opn k (by rw [ho]; simp [hk]), h.pos, h.ent, fun k hk => ?_, fun k k1 k2 k3 x hx => ?_, h.fal, fun hb k k1 k2 k3 => ?_, fun D hD => ?_, ⟨?_, fun k k1 k2 k3 => ?_⟩, ?_⟩
   · have : i = k := Option.some.inj hk
     subst this
     exact ⟨hil, hi0, hir⟩
   · simp only at k2 k3 ⊢
     by_cases hk : some i = some k
     · rw [if_pos hk] at hx; simp at hx
     · rw [if_neg hk] at hx
       rcases back k k3 with hki | hko
       · exact absurd (by rw [hki]) hk
       · have := h.done k k1 k2 hko
         simp only [reduceCtorEq, if_false] at this
         exact this x hx
   · simp only [Bool.or_eq_false_iff, decide_eq_false_iff_not] at hb
     simp only at k2 k3 ⊢
     by_cases hk : some i = some k
     · have : i = k := Option.some.inj hk
       subst this
       exact ⟨by omega, fun x hx => by rw [if_pos hk] at hx; simp at hx⟩
     · rw [if_neg hk]
       rcases back k k3 with hki | hko
       · exact absurd (by rw [hki]) hk
       · have := h.brk hb.1 k k1 k2 hko
         simp only [reduceCtorEq, if_false] at this
         exact this
   · obtain ⟨c1, c2⟩ := h.cf D hD
     refine ⟨?_, c2⟩
     have := hD.pops i hp2
     have := c2 i hil hi0
     simp only [c1, Bool.false_or, decide_eq_false_iff_not]
     omega
   · have := h.dle.1
     simp only
     omega
   · simp only at k2 k3 ⊢
     rcases back k k3 with hki | hko
     · rw [hki]; omega
     · have := h.dle.2 k k1 k2 hko; omega
   · simp only
     by_cases hm : aft c i (gD a.ds i - 1) <= a.depth
     · rcases h.dat with hd | ⟨k, k1, k2, k3, k4⟩
       · exact .inl (by omega)
       · exact .inr ⟨k, k1, k2, fun hh => k3 (by rw [ho]; simp [hh]), by omega⟩
     · exact .inr ⟨i, hil, hi0, hir, by omega⟩
 have h1 := (fold_inv (sucs c i) [] _ (aft c i (gD a.ds i - 1)) h0 rfl (fun j hj => ⟨hj, hf i hil j hj⟩)).1
 rw [List.nil_append] at h1
 unfold stp
 refine ⟨h1.len, h1.nodup, h1.opn, h1.pos, h1.ent, fun k hk => (by cases hk), fun k k1 k2 k3 x hx => ?_, h1.fal, fun hb k k1 k2 k3 => ?_, h1.cf, h1.dle, h1.dat⟩
 · have := h1.done k k1 k2 k3
   simp only [reduceCtorEq, if_false] at hx
   by_cases hk : some i = some k
   · rw [if_pos hk] at this
     exact this x (by rw [Option.some.inj hk]; exact hx)
   · rw [if_neg hk] at this
     exact this x hx
 · have := h1.brk hb k k1 k2 k3
   simp only [reduceCtorEq, if_false]
   by_cases hk : some i = some k
   · have hik : i = k := Option.some.inj hk
     subst hik
     rw [if_pos rfl] at this
     exact this
   · rw [if_neg hk] at this
     exact this
def an0 (c : Cd) (e : Nat) : An := ⟨false, false, 0, (List.replicate c.length 0).set e 1, [e]⟩
theorem gD_zero (n i : Nat) : gD (List.replicate n 0) i = 0 := by
 simp only [gD, List.getD_eq_getElem?_getD, List.getElem?_replicate]
 split <;> rfl
theorem an0_inv {c : Cd} {e : Nat} (he : e < c.length) : Inv c e none [] (an0 c e) := by
 have hse : gD ((List.replicate c.length 0).set e 1) e = 1 := gD_set_eq (by simpa using he)
 have hne : ∀ i, gD ((List.replicate c.length 0).set e 1) i ≠ 0 -> i = e := fun i hi => by
   by_cases h : e = i
   · exact h.symm
   · rw [gD_set_ne h, gD_zero] at hi; exact absurd rfl hi
 unfold an0
 refine ⟨by simp, by simp, fun i hi => ?_, fun i _ hi => ?_, hse, fun i hi => (by cases hi), fun i _ h2 h3 => ?_, fun h => (by simp at h), fun _ i _ h2 h3 => ?_, fun D hD => ⟨rfl, fun i _ h2 => ?_⟩, ⟨by simp, fun i _ h2 h3 => ?_⟩, .inl rfl⟩
 · simp only [List.mem_singleton] at hi
   rw [hi]; exact ⟨he, by rw [hse]; omega⟩
 · rw [hne i hi, hse]; exact ⟨by omega, Reach.here⟩
 · exact absurd (by simp [hne i h2]) h3
 · exact absurd (by simp [hne i h2]) h3
 · rw [hne i h2, hse, hD.zero]; rfl
 · exact absurd (by simp [hne i h2]) h3
theorem fin_inv {c : Cd} {e : Nat} {a : An} (he : e < c.length) (h : Inv c e none [] a) (ho : a.op = []) :
   (a.falls = true ↔ Falls c e) /\ (a.breaks = false ↔ ∃ D, CF c e D) /\ ∀ D, CF c e D -> Most c e D a.depth := by
 have hno : ∀ i, i ∉ a.op := fun i => by rw [ho]; simp
 have hall : ∀ i, Reach c e i -> gD a.ds i ≠ 0 := fun i hi => by
   induction hi with
   | here => rw [h.ent]; omega
   | go hi hl hj hjl ih =>
     have := h.done _ hl ih (hno _)
     simp only [reduceCtorEq, if_false] at this
     have := (this _ hj).2 (by omega)
     simpa using this
 refine ⟨⟨h.fal, fun ⟨i, hi, hj⟩ => ?_⟩, ⟨fun hb => ⟨fun i => gD a.ds i - 1, ?_, fun i hi => ?_, fun i hi j hj hjl => ?_⟩, fun ⟨D, hD⟩ => (h.cf D hD).1⟩, fun D hD => ⟨h.dle.1, fun i hi => ?_, ?_⟩⟩
 · have := h.done i (hi.lt he) (hall i hi) (hno i)
   simp only [reduceCtorEq, if_false] at this
   exact (this _ hj).1 rfl
 · rw [h.ent]; rfl
 · exact (h.brk hb i (hi.lt he) (hall i hi) (hno i)).1
 · have := (h.brk hb i (hi.lt he) (hall i hi) (hno i)).2
   simp only [reduceCtorEq, if_false] at this
   have := this _ hj (by omega)
   simp only [Int.toNat_natCast] at this
   omega
 · have h2 := (h.cf D hD).2 i (hi.lt he) (hall i hi)
   have := h.dle.2 i (hi.lt he) (hall i hi) (hno i)
   rw [h2, show D i + 1 - 1 = D i by omega] at this
   exact this
 · rcases h.dat with h0 | ⟨i, h1, h2, _, h4⟩
   · exact .inl h0
   · refine .inr ⟨i, (h.pos i h1 h2).2, ?_⟩
     rw [h4, (h.cf D hD).2 i h1 h2, show D i + 1 - 1 = D i by omega]
def mu (a : An) : Nat := 2 * a.ds.count 0 + a.op.length
theorem count_set {l : List Int} {i : Nat} {v : Int} (hi : i < l.length) (h0 : gD l i = 0) (hv : v ≠ 0) : (l.set i v).count 0 + 1 = l.count 0 := by
 have hx : l[i] = 0 := by simpa [gD, List.getD_eq_getElem?_getD, hi] using h0
 rw [List.count_set hi]
 have hp : 0 < l.count 0 := List.count_pos_iff.2 (by rw [<- hx]; exact List.getElem_mem hi)
 simp [hx, hv]
 omega
theorem one_mu {n : Nat} {d : Int} {a : An} {j : Int} (hl : a.ds.length = n) (hj : 0 <= j /\ j <= n) : mu (one n d a j) <= mu a /\ (one n d a j).ds.length = n := by
 unfold one
 by_cases hn : j = n
 · rw [if_pos hn]; exact ⟨Nat.le_refl _, hl⟩
 · rw [if_neg hn]
   by_cases h0 : gD a.ds j.toNat = 0
   · rw [if_pos h0]
     refine ⟨?_, by simp [hl]⟩
     have := count_set (v := max d 0 + 1) (by omega) h0 (by omega)
     unfold mu
     simp only [List.length_append, List.length_singleton]
     omega
   · rw [if_neg h0]
     split <;> exact ⟨Nat.le_refl _, hl⟩
theorem fold_mu {n : Nat} {d : Int} : ∀ (l : List Int) (a : An), a.ds.length = n -> (∀ j ∈ l, 0 <= j /\ j <= n) -> mu (l.foldl (one n d) a) <= mu a
 | [], a, _, _ => Nat.le_refl _
 | j :: l, a, hl, hj => by
   obtain ⟨h1, h2⟩ := one_mu (d := d) hl (hj j (by simp))
   exact Nat.le_trans (fold_mu l _ h2 (fun x hx => hj x (by simp [hx]))) h1
theorem stp_mu {c : Cd} {i : Nat} {r : List Nat} {a : An} (hf : Fits c) (hl : a.ds.length = c.length) (hi : i < c.length) (ho : a.op = r ++ [i]) : mu (stp c a i r) < mu a := by
 unfold stp
 refine Nat.lt_of_le_of_lt (fold_mu _ _ (by simpa using hl) (hf i hi)) ?_
 simp only [mu, ho, List.length_append, List.length_singleton]
 omega
end Go.Pm.Gr
end SP2
section SP3
namespace Go.Pm.Gr
structure Rs where
 out : List Int
 ok : Bool
 ch : Bool
structure RI (c : Cd) (e : Nat) (s : Rs) : Prop where
 len : s.out.length = c.length
 ent : gD s.out e = 0
 rch : ∀ i, i < c.length -> 0 <= gD s.out i -> Reach c e i
 cf : ∀ D, CF c e D -> s.ok = true /\ ∀ i, i < c.length -> 0 <= gD s.out i -> gD s.out i = D i
end Go.Pm.Gr
end SP3
section SP4
namespace Go.Pm.Gr
structure AnaRes (c : Cd) (e : Nat) (fl br : Bool) (dp : Int) : Prop where
 fal : fl = true ↔ Falls c e
 brk : br = false ↔ ∃ D, CF c e D
 most : ∀ D, CF c e D -> Most c e D dp
structure RefRes (c : Cd) (e : Nat) (out : List Int) (ok : Bool) : Prop where
 len : out.length = c.length
 rch : ∀ i, i < c.length -> (0 <= gD out i ↔ Reach c e i)
 ok_ : ok = true ↔ ∃ D, CF c e D
 val : ∀ D, CF c e D -> ∀ i, Reach c e i -> gD out i = D i
end Go.Pm.Gr
end SP4
