/- Small stores: a part of a store renamed; a call's store laid back. -/
import Derived.Test.YtebhnnjdljcicaaPmJ
namespace Go.Pm
variable {fid : Fid}

structure Ren (r : Nat → Nat) (L : Nat → Prop) (Γ Γs : Ctx) : Prop where
  F : Γs.F = Γ.F
  w : Γs.w = Γ.w
  μ : ∀ l, L l → Γs.μ (r l) = Γ.μ l
  σ : ∀ l ob, L l → Γ.σ[l]? = some ob → Γs.σ[r l]? = some (ob.ren r)
theorem Ob.isTip_ren (r : Nat → Nat) (ob : Ob) : (ob.ren r).isTip = ob.isTip := by cases ob <;> rfl
theorem Ctx.fix.ren {r : Nat → Nat} {L : Nat → Prop} {Γ Γs : Ctx} (h : Ren r L Γ Γs) {l : Nat} (hl : L l) (hf : Γ.fix l) : Γs.fix (r l) := by
  obtain ⟨ob, h1, h2⟩ := hf
  exact ⟨_, h.σ l ob hl h1, by rw [Ob.isTip_ren]; exact h2⟩
mutual
theorem Rep.ren {r : Nat → Nat} {L : Nat → Prop} {Γ Γs : Ctx} (h : Ren r L Γ Γs) : ∀ (v : V) (x : Value), (∀ l ∈ v.locs, L l) → Rep fid Γ v x → Rep fid Γs (v.ren r) x
  | .dat d, x, _, hr => by simp only [Rep, V.ren] at hr ⊢; rw [h.F, h.w]; exact hr
  | .ptr l o, x, hl, hr => by
    simp only [Rep, V.ren] at hr ⊢
    obtain ⟨b, h1, h2, h3⟩ := hr
    have := hl l (by simp [V.locs])
    exact ⟨b, by rw [h.μ l this]; exact h1, h2, h3.ren h this⟩
  | .gsl cs n sz l, x, hl, hr => by
    simp only [Rep, V.ren] at hr ⊢
    obtain ⟨b, cap, vs, m, h1, h2, h3, h4, h5, h6, h7, h8, h9⟩ := hr
    have := hl l (by simp [V.locs])
    rw [h.F, h.w, h.μ l this]
    exact ⟨b, cap, vs, m, h1, h2, h3, h4, h5, h.σ l _ this h6, h7, h8, h9⟩
  | .msl l o n cap, x, hl, hr => by
    simp only [Rep, V.ren] at hr ⊢
    obtain ⟨b, h1, h2, h3, h4⟩ := hr
    have := hl l (by simp [V.locs])
    exact ⟨b, by rw [h.μ l this]; exact h1, h2, h3, h4.ren h this⟩
  | .agg cs, x, hl, hr => by
    simp only [Rep, V.ren] at hr ⊢
    obtain ⟨vs, h1, h2⟩ := hr
    exact ⟨vs, h1, Reps.ren h cs vs (fun l hl' => hl l (by simpa [V.locs] using hl')) h2⟩
  | .fn f a b, x, hl, hr => by
    simp only [Rep, V.ren] at hr ⊢
    obtain ⟨as, bs, h1, h2, h3⟩ := hr
    exact ⟨as, bs, h1, Reps.ren h a as (fun l hl' => hl l (by simp [V.locs, hl'])) h2, Reps.ren h b bs (fun l hl' => hl l (by simp [V.locs, hl'])) h3⟩
  | .mp l, x, hl, hr => by
    simp only [Rep, V.ren] at hr ⊢
    obtain ⟨b, h1, h2, h3⟩ := hr
    have := hl l (by simp [V.locs])
    exact ⟨b, by rw [h.μ l this]; exact h1, h2, h3.ren h this⟩
  | .iface t v, x, hl, hr => by
    simp only [Rep, V.ren] at hr ⊢
    obtain ⟨y, h1, h2⟩ := hr
    exact ⟨y, h1, Rep.ren h v y (fun l hl' => hl l (by simpa [V.locs] using hl')) h2⟩
  | .tup vs, x, hl, hr => by
    simp only [Rep, V.ren] at hr ⊢
    obtain ⟨xs, h1, h2⟩ := hr
    exact ⟨xs, h1, Reps.ren h vs xs (fun l hl' => hl l (by simpa [V.locs] using hl')) h2⟩
  | .yld l, x, hl, hr => by
    simp only [Rep, V.ren] at hr ⊢
    obtain ⟨b, h1, h2, h3⟩ := hr
    have := hl l (by simp [V.locs])
    exact ⟨b, by rw [h.μ l this]; exact h1, h2, h3.ren h this⟩
theorem Reps.ren {r : Nat → Nat} {L : Nat → Prop} {Γ Γs : Ctx} (h : Ren r L Γ Γs) : ∀ (vs : List V) (xs : List Value), (∀ l ∈ locsL vs, L l) → Reps fid Γ vs xs → Reps fid Γs (renL r vs) xs
  | [], xs, _, hr => by simpa only [Reps, renL] using hr
  | d :: ds, xs, hl, hr => by
    simp only [Reps, renL] at hr ⊢
    obtain ⟨y, ys, h1, h2, h3⟩ := hr
    exact ⟨y, ys, h1, Rep.ren h d y (fun l hl' => hl l (by simp [locsL, hl'])) h2, Reps.ren h ds ys (fun l hl' => hl l (by simp [locsL, hl'])) h3⟩
end
theorem RepE.ren {r : Nat → Nat} {L : Nat → Prop} {Γ Γs : Ctx} (h : Ren r L Γ Γs) : ∀ (es : List (Value × V)) (xs : List MapEntry), (∀ l ∈ locsE es, L l) → RepE fid Γ es xs → RepE fid Γs (renE r es) xs
  | [], xs, _, hr => by simpa only [RepE, renE] using hr
  | (k, v) :: es, xs, hl, hr => by
    simp only [RepE, renE] at hr ⊢
    obtain ⟨e, es', h1, h2, h3, h4⟩ := hr
    exact ⟨e, es', h1, h2, Rep.ren h v e.val (fun l hl' => hl l (by simp [locsE, hl'])) h3, RepE.ren h es es' (fun l hl' => hl l (by simp [locsE, hl'])) h4⟩
theorem get_renF {r : Nat → Nat} : ∀ {fr : Fr} {t : Nat} {v : V}, (renF r fr).get t = some v → ∃ u, fr.get t = some u ∧ v = u.ren r ∧ ∀ l ∈ u.locs, l ∈ locsF fr
  | [], t, v, h => by simp [renF, Fr.get] at h
  | (k, u) :: fr, t, v, h => by
    simp only [renF, Fr.get] at h ⊢
    split at h
    · rename_i e
      cases h
      exact ⟨u, by rw [if_pos e], rfl, fun l hl => by simp [locsF, hl]⟩
    · rename_i e
      obtain ⟨u', h1, h2, h3⟩ := get_renF h
      exact ⟨u', by rw [if_neg e]; exact h1, h2, fun l hl => by simp [locsF, h3 l hl]⟩
mutual
theorem locs_ren {r : Nat → Nat} : ∀ {v : V} {l : Nat}, l ∈ (v.ren r).locs → ∃ l' ∈ v.locs, l = r l'
  | .dat _, l, h => by simp [V.ren, V.locs] at h
  | .ptr l' o, l, h => by simp [V.ren, V.locs] at h ⊢; exact h
  | .gsl _ _ _ l', l, h => by simp [V.ren, V.locs] at h ⊢; exact h
  | .msl l' _ _ _, l, h => by simp [V.ren, V.locs] at h ⊢; exact h
  | .agg cs, l, h => by simp only [V.ren, V.locs] at h ⊢; exact locsL_ren h
  | .fn f a b, l, h => by
    simp only [V.ren, V.locs, List.mem_append] at h ⊢
    rcases h with h | h
    · obtain ⟨l', h1, h2⟩ := locsL_ren h; exact ⟨l', .inl h1, h2⟩
    · obtain ⟨l', h1, h2⟩ := locsL_ren h; exact ⟨l', .inr h1, h2⟩
  | .mp l', l, h => by simp [V.ren, V.locs] at h ⊢; exact h
  | .iface _ v, l, h => by simp only [V.ren, V.locs] at h ⊢; exact locs_ren h
  | .tup vs, l, h => by simp only [V.ren, V.locs] at h ⊢; exact locsL_ren h
  | .yld l', l, h => by simp [V.ren, V.locs] at h ⊢; exact h
theorem locsL_ren {r : Nat → Nat} : ∀ {vs : List V} {l : Nat}, l ∈ locsL (renL r vs) → ∃ l' ∈ locsL vs, l = r l'
  | [], l, h => by simp [renL, locsL] at h
  | v :: vs, l, h => by
    simp only [renL, locsL, List.mem_append] at h ⊢
    rcases h with h | h
    · obtain ⟨l', h1, h2⟩ := locs_ren h; exact ⟨l', .inl h1, h2⟩
    · obtain ⟨l', h1, h2⟩ := locsL_ren h; exact ⟨l', .inr h1, h2⟩
end
theorem locsF_ren {r : Nat → Nat} : ∀ {fr : Fr} {l : Nat}, l ∈ locsF (renF r fr) → ∃ l' ∈ locsF fr, l = r l'
  | [], l, h => by simp [renF, locsF] at h
  | (_, v) :: vs, l, h => by
    simp only [renF, locsF, List.mem_append] at h ⊢
    rcases h with h | h
    · obtain ⟨l', h1, h2⟩ := locs_ren h; exact ⟨l', .inl h1, h2⟩
    · obtain ⟨l', h1, h2⟩ := locsF_ren h; exact ⟨l', .inr h1, h2⟩
theorem FrRep.ren {r : Nat → Nat} {L : Nat → Prop} {Γ Γs : Ctx} (h : Ren r L Γ Γs) {N : Nat} {fr : Fr} {tmps : Array Value} (hl : ∀ l ∈ locsF fr, L l) (hf : FrRep fid Γ N fr tmps) : FrRep fid Γs N (renF r fr) tmps := by
  refine ⟨hf.1, fun t v ht hv => ?_⟩
  obtain ⟨u, h1, rfl, h3⟩ := get_renF hv
  exact Rep.ren h u _ (fun l hl' => hl l (h3 l hl')) (hf.2 t u ht h1)
theorem RepOb.ren {r : Nat → Nat} {L : Nat → Prop} {Γ Γs : Ctx} (h : Ren r L Γ Γs) {b : Nat} : ∀ (ob : Ob), (∀ l ∈ ob.locs, L l) → RepOb fid Γ b ob → RepOb fid Γs b (ob.ren r)
  | .cells cs, hl, hr => by
    simp only [RepOb, Ob.ren] at hr ⊢
    obtain ⟨h1, arr, e, h2, h3⟩ := hr
    exact ⟨by rw [h.F]; exact h1, arr, e, by rw [h.w]; exact h2, Reps.ren h cs _ hl h3⟩
  | .map es, hl, hr => by
    simp only [RepOb, Ob.ren] at hr ⊢
    obtain ⟨h1, arr, e, h2, h3⟩ := hr
    exact ⟨by rw [h.F]; exact h1, arr, e, by rw [h.w]; exact h2, RepE.ren h es _ hl h3⟩
  | .tip m, _, hr => by
    simp only [RepOb, Ob.ren] at hr ⊢
    rw [h.F]; exact hr
  | .loop lp, hl, hr => by
    simp only [RepOb, Ob.ren] at hr ⊢
    obtain ⟨h1, M, h2, h3, h4, h5, N, h6, h7, h8, h9, h10⟩ := hr
    refine ⟨by rw [h.F]; exact h1, M, by rw [h.w]; exact h2, h3, h4, h5, N, h6, h7, h8, FrRep.ren h hl h9, fun l hl' => ?_⟩
    obtain ⟨l', hm, rfl⟩ := locsF_ren hl'
    have := h10 l' hm
    exact (List.getElem?_eq_some_iff.1 (h.σ l' (Γ.σ[l']'this) (hl l' hm) (by simp))).1
mutual
theorem Rep.lt {Γ : Ctx} : ∀ (v : V) (x : Value), Rep fid Γ v x → ∀ l ∈ v.locs, l < Γ.σ.length
  | .dat d, x, _, l, hl => by simp [V.locs] at hl
  | .ptr l' o, x, hr, l, hl => by
    simp only [Rep] at hr
    obtain ⟨b, h1, h2, ob, h3, _⟩ := hr
    simp [V.locs] at hl; subst hl
    exact (List.getElem?_eq_some_iff.1 h3).1
  | .gsl cs n sz l', x, hr, l, hl => by
    simp only [Rep] at hr
    obtain ⟨b, cap, vs, m, _, _, _, _, _, h6, _⟩ := hr
    simp [V.locs] at hl; subst hl
    exact (List.getElem?_eq_some_iff.1 h6).1
  | .msl l' o n cap, x, hr, l, hl => by
    simp only [Rep] at hr
    obtain ⟨b, h1, h2, _, ob, h3, _⟩ := hr
    simp [V.locs] at hl; subst hl
    exact (List.getElem?_eq_some_iff.1 h3).1
  | .agg cs, x, hr, l, hl => by
    simp only [Rep] at hr
    obtain ⟨vs, _, h⟩ := hr
    exact Reps.lt cs vs h l (by simpa [V.locs] using hl)
  | .fn f a b, x, hr, l, hl => by
    simp only [Rep] at hr
    obtain ⟨as, bs, _, h1, h2⟩ := hr
    simp only [V.locs, List.mem_append] at hl
    rcases hl with hl | hl
    · exact Reps.lt a as h1 l hl
    · exact Reps.lt b bs h2 l hl
  | .mp l', x, hr, l, hl => by
    simp only [Rep] at hr
    obtain ⟨b, h1, h2, ob, h3, _⟩ := hr
    simp [V.locs] at hl; subst hl
    exact (List.getElem?_eq_some_iff.1 h3).1
  | .iface t v, x, hr, l, hl => by
    simp only [Rep] at hr
    obtain ⟨y, _, h⟩ := hr
    exact Rep.lt v y h l (by simpa [V.locs] using hl)
  | .tup vs, x, hr, l, hl => by
    simp only [Rep] at hr
    obtain ⟨xs, _, h⟩ := hr
    exact Reps.lt vs xs h l (by simpa [V.locs] using hl)
  | .yld l', x, hr, l, hl => by
    simp only [Rep] at hr
    obtain ⟨b, h1, h2, ob, h3, _⟩ := hr
    simp [V.locs] at hl; subst hl
    exact (List.getElem?_eq_some_iff.1 h3).1
theorem Reps.lt {Γ : Ctx} : ∀ (vs : List V) (xs : List Value), Reps fid Γ vs xs → ∀ l ∈ locsL vs, l < Γ.σ.length
  | [], xs, _, l, hl => by simp [locsL] at hl
  | d :: ds, xs, hr, l, hl => by
    simp only [Reps] at hr
    obtain ⟨y, ys, _, h2, h3⟩ := hr
    simp only [locsL, List.mem_append] at hl
    rcases hl with hl | hl
    · exact Rep.lt d y h2 l hl
    · exact Reps.lt ds ys h3 l hl
end
theorem RepE.lt {Γ : Ctx} : ∀ (es : List (Value × V)) (xs : List MapEntry), RepE fid Γ es xs → ∀ l ∈ locsE es, l < Γ.σ.length
  | [], xs, _, l, hl => by simp [locsE] at hl
  | (k, v) :: es, xs, hr, l, hl => by
    simp only [RepE] at hr
    obtain ⟨e, es', _, _, h2, h3⟩ := hr
    simp only [locsE, List.mem_append] at hl
    rcases hl with hl | hl
    · exact Rep.lt v _ h2 l hl
    · exact RepE.lt es es' h3 l hl
theorem RepOb.lt {Γ : Ctx} {b : Nat} : ∀ (ob : Ob), RepOb fid Γ b ob → ∀ l ∈ ob.locs, l < Γ.σ.length
  | .cells cs, hr, l, hl => by simp only [RepOb] at hr; obtain ⟨_, arr, e, _, h⟩ := hr; exact Reps.lt cs _ h l hl
  | .map es, hr, l, hl => by simp only [RepOb] at hr; obtain ⟨_, arr, e, _, h⟩ := hr; exact RepE.lt es _ h l hl
  | .tip m, _, l, hl => by simp [Ob.locs] at hl
  | .loop lp, hr, l, hl => by simp only [RepOb] at hr; obtain ⟨_, M, _, _, _, _, N, _, _, _, _, h⟩ := hr; exact h l hl

/-! ## lists of places -/
theorem inL_mem {L : List Nat} : ∀ {ks : List Nat}, inL L ks = true → ∀ k ∈ ks, k ∈ L
  | [], _, k, hk => by cases hk
  | a :: ks, h, k, hk => by
    simp only [inL, Bool.and_eq_true, List.contains_eq_mem, decide_eq_true_eq] at h
    rcases List.mem_cons.1 hk with rfl | hk
    · exact h.1
    · exact inL_mem h.2 k hk
theorem nodupB_spec : ∀ {L : List Nat}, nodupB L = true → L.Nodup
  | [], _ => List.nodup_nil
  | k :: ks, h => by
    simp only [nodupB, Bool.and_eq_true, Bool.not_eq_true', List.contains_eq_mem, decide_eq_false_iff_not] at h
    exact List.nodup_cons.2 ⟨h.1, nodupB_spec h.2⟩
theorem idx_get : ∀ {L : List Nat} {l : Nat}, l ∈ L → L[idx L l]? = some l
  | k :: ks, l, h => by
    simp only [idx]
    by_cases e : k = l
    · simp [e]
    · rw [if_neg e]
      have : l ∈ ks := by
        rcases List.mem_cons.1 h with rfl | h
        · exact absurd rfl e
        · exact h
      simpa using idx_get this
theorem idx_of_get : ∀ {L : List Nat} {i l : Nat}, L.Nodup → L[i]? = some l → idx L l = i
  | [], i, l, _, h => by simp at h
  | k :: ks, i, l, hn, h => by
    obtain ⟨h1, h2⟩ := List.nodup_cons.1 hn
    cases i with
    | zero => simp at h; simp [idx, h]
    | succ i =>
      have h' : ks[i]? = some l := by simpa using h
      have hm : l ∈ ks := List.mem_of_getElem? h'
      simp only [idx]
      rw [if_neg (fun e => h1 (by rw [e]; exact hm)), idx_of_get h2 h']
theorem getObs_spec {σ : S} : ∀ {L : List Nat} {obs : List Ob}, getObs σ L = some obs → obs.length = L.length ∧ ∀ (i l : Nat), L[i]? = some l → ∃ ob, obs[i]? = some ob ∧ σ[l]? = some ob
  | [], obs, h => by simp only [getObs, Option.some.injEq] at h; subst h; simp
  | k :: ks, obs, h => by
    simp only [getObs] at h
    split at h
    · rename_i ob obs' h1 h2
      cases h
      obtain ⟨h3, h4⟩ := getObs_spec h2
      refine ⟨by simp [h3], fun i l hi => ?_⟩
      cases i with
      | zero => simp at hi; subst hi; exact ⟨ob, rfl, h1⟩
      | succ i => exact h4 i l (by simpa using hi)
    · cases h
theorem closed_spec {L : List Nat} : ∀ {obs : List Ob}, closed L obs = true → ∀ ob ∈ obs, ∀ l ∈ ob.locs, l ∈ L
  | [], _, ob, hob => by cases hob
  | o :: obs, h, ob, hob => by
    simp only [closed, Bool.and_eq_true] at h
    rcases List.mem_cons.1 hob with rfl | hob
    · exact inL_mem h.1
    · exact closed_spec h.2 ob hob

/-- The part of a context at the places of a list. -/
def Ctx.part (Γ : Ctx) (L : List Nat) (σs : S) : Ctx := ⟨σs, fun i => (L[i]?).bind Γ.μ, Γ.F, Γ.w⟩
theorem restrict_sound {Γ : Ctx} (hr : Real fid Γ) {L : List Nat} {vs vs' : List V} {σs : S} (h : restrict L vs Γ.σ = some (vs', σs)) :
    L.Nodup ∧ σs.length = L.length ∧ (∀ l ∈ L, l < Γ.σ.length) ∧ Ren (idx L) (· ∈ L) Γ (Γ.part L σs) ∧ Real fid (Γ.part L σs) ∧ (∀ xs, Reps fid Γ vs xs → Reps fid (Γ.part L σs) vs' xs) := by
  unfold restrict at h
  split at h
  · rename_i obs hobs
    split at h
    · rename_i hcond
      simp only [Bool.and_eq_true] at hcond
      obtain ⟨h1, h2, h3⟩ := hcond
      cases h
      have hn := nodupB_spec h1
      obtain ⟨g1, g2⟩ := getObs_spec hobs
      have hlt : ∀ l ∈ L, l < Γ.σ.length := fun l hl => by
        obtain ⟨ob, _, h⟩ := g2 _ l (idx_get hl)
        exact (List.getElem?_eq_some_iff.1 h).1
      have hren : Ren (idx L) (· ∈ L) Γ (Γ.part L (obs.map (Ob.ren (idx L)))) := by
        refine ⟨rfl, rfl, fun l hl => ?_, fun l ob hl ho => ?_⟩
        · simp only [Ctx.part, idx_get hl, Option.bind_some]
        · obtain ⟨ob', h4, h5⟩ := g2 _ l (idx_get hl)
          rw [ho] at h5; cases h5
          simp only [Ctx.part, List.getElem?_map, h4, Option.map_some]
      have hget : ∀ (i l : Nat) (ob : Ob), L[i]? = some l → (obs.map (Ob.ren (idx L)))[i]? = some ob → ∃ ob', Γ.σ[l]? = some ob' ∧ ob' ∈ obs ∧ ob = ob'.ren (idx L) := fun i l ob hi ho => by
        obtain ⟨ob', h4, h5⟩ := g2 i l hi
        simp only [List.getElem?_map, h4, Option.map_some, Option.some.injEq] at ho
        exact ⟨ob', h5, List.mem_of_getElem? h4, ho.symm⟩
      refine ⟨hn, by simp [g1], hlt, hren, ⟨fun i ob b ho hm => ?_, fun i b hm => ?_, fun i j b hi hj => ?_, hr.imm⟩, fun xs hx => Reps.ren hren vs xs (inL_mem h2) hx⟩
      · simp only [Ctx.part] at hm ho
        cases hl : L[i]? with
        | none => rw [hl] at hm; cases hm
        | some l =>
          rw [hl] at hm
          obtain ⟨ob', k1, k2, rfl⟩ := hget i l ob hl ho
          exact RepOb.ren hren ob' (closed_spec h3 ob' k2) (hr.obs l ob' b k1 hm)
      · simp only [Ctx.part] at hm ⊢
        cases hl : L[i]? with
        | none => rw [hl] at hm; cases hm
        | some l =>
          rw [hl] at hm
          exact ⟨by rw [List.length_map, g1]; exact (List.getElem?_eq_some_iff.1 hl).1, (hr.dom l b hm).2⟩
      · simp only [Ctx.part] at hi hj
        cases hl : L[i]? with
        | none => rw [hl] at hi; cases hi
        | some l =>
          cases hl' : L[j]? with
          | none => rw [hl'] at hj; cases hj
          | some l' =>
            rw [hl] at hi; rw [hl'] at hj
            have := hr.inj l l' b hi hj
            subst this
            rw [← idx_of_get hn hl, ← idx_of_get hn hl']
    · cases h
  · cases h

/-! ## laying back -/
theorem writeBack_get : ∀ {L : List Nat} {σ : S} {obs : List Ob}, L.Nodup → (∀ l ∈ L, l < σ.length) → L.length ≤ obs.length →
    (writeBack σ L obs).length = σ.length + (obs.length - L.length) ∧ (∀ (i l : Nat), L[i]? = some l → (writeBack σ L obs)[l]? = obs[i]?) ∧
    (∀ (l : Nat), l < σ.length → l ∉ L → (writeBack σ L obs)[l]? = σ[l]?) ∧ ∀ (j : Nat), (writeBack σ L obs)[σ.length + j]? = obs[L.length + j]?
  | [], σ, obs, _, _, _ => by
    refine ⟨by simp [writeBack], by simp, fun l hl _ => ?_, fun j => ?_⟩
    · simp only [writeBack]; rw [List.getElem?_append_left hl]
    · simp only [writeBack]; rw [List.getElem?_append_right (by omega)]; simp
  | k :: ks, σ, [], _, _, h => by simp at h
  | k :: ks, σ, ob :: obs, hn, hlt, hle => by
    obtain ⟨h1, h2⟩ := List.nodup_cons.1 hn
    have hk := hlt k (by simp)
    obtain ⟨g1, g2, g3, g4⟩ := writeBack_get (L := ks) (σ := σ.set k ob) (obs := obs) h2 (fun l hl => by simpa using hlt l (by simp [hl])) (by simpa using hle)
    simp only [List.length_set] at g1 g3 g4
    refine ⟨by simp only [writeBack, g1, List.length_cons]; omega, fun i l hi => ?_, fun l hl hm => ?_, fun j => ?_⟩
    · cases i with
      | zero =>
        simp at hi; subst hi
        simp only [writeBack]
        rw [g3 k hk h1]
        simp [hk]
      | succ i => simp only [writeBack]; rw [g2 i l (by simpa using hi)]; simp
    · simp only [writeBack]
      rw [g3 l hl (fun h => hm (by simp [h])), List.getElem?_set_ne (fun e => hm (by simp [e]))]
    · simp only [writeBack]
      rw [g4 j]
      simp only [List.length_cons]
      rw [show ks.length + 1 + j = (ks.length + j) + 1 from by omega]
      simp

theorem call_back {Γ : Ctx} (hr : Real fid Γ) {L : List Nat} {σs : S} (hn : L.Nodup) (hlt : ∀ l ∈ L, l < Γ.σ.length) (hren : Ren (idx L) (· ∈ L) Γ (Γ.part L σs)) (hlen : σs.length = L.length)
    {Γs' : Ctx} (hr' : Real fid Γs') (hst : Step (Γ.part L σs) Γs') :
    ∃ Γ' : Ctx, Γ'.σ = writeBack Γ.σ L (Γs'.σ.map (Ob.ren (back L Γ.σ.length))) ∧ Γ'.w = Γs'.w ∧ Real fid Γ' ∧ Step Γ Γ' ∧ ∀ v x, Rep fid Γs' v x → Rep fid Γ' (v.ren (back L Γ.σ.length)) x := by
  have hle : L.length ≤ Γs'.σ.length := by have := hst.ext.len; simp only [Ctx.part, hlen] at this; exact this
  obtain ⟨g1, g2, g3, g4⟩ := writeBack_get (σ := Γ.σ) (obs := Γs'.σ.map (Ob.ren (back L Γ.σ.length))) hn hlt (by simpa using hle)
  simp only [List.length_map] at g1
  let Γ' : Ctx := ⟨writeBack Γ.σ L (Γs'.σ.map (Ob.ren (back L Γ.σ.length))), fun l => if l ∈ L then Γs'.μ (idx L l) else if l < Γ.σ.length then Γ.μ l else Γs'.μ (L.length + (l - Γ.σ.length)), Γs'.F, Γs'.w⟩
  -- the objects of the call's store, in the caller's
  have hback : ∀ i, i < Γs'.σ.length → Γ'.μ (back L Γ.σ.length i) = Γs'.μ i ∧ Γ'.σ[back L Γ.σ.length i]? = (Γs'.σ[i]?).map (Ob.ren (back L Γ.σ.length)) := fun i hi => by
    unfold back
    cases hl : L[i]? with
    | some l =>
      have hm := List.mem_of_getElem? hl
      refine ⟨by simp only [Γ', hm, if_true, idx_of_get hn hl], ?_⟩
      simp only [Γ']
      rw [g2 i l hl, List.getElem?_map]
      rfl
    | none =>
      have hi' : L.length ≤ i := List.getElem?_eq_none_iff.1 hl
      have hnm : ¬ (Γ.σ.length + (i - L.length)) ∈ L := fun h => by have := hlt _ h; omega
      refine ⟨?_, ?_⟩
      · simp only [Γ', hnm, if_false]
        rw [if_neg (by omega)]
        congr 1; omega
      · simp only [Γ']
        rw [g4, List.getElem?_map, show L.length + (i - L.length) = i from by omega]
        rfl
  have hren' : Ren (back L Γ.σ.length) (· < Γs'.σ.length) Γs' Γ' := ⟨rfl, rfl, fun i hi => (hback i hi).1, fun i ob hi ho => by rw [(hback i hi).2, ho]; rfl⟩
  -- every place of the new store is one of three
  have hcase : ∀ l, l < Γ'.σ.length → (∃ i, i < Γs'.σ.length ∧ l = back L Γ.σ.length i) ∨ (l < Γ.σ.length ∧ l ∉ L) := fun l hl => by
    by_cases hm : l ∈ L
    · refine .inl ⟨idx L l, ?_, ?_⟩
      · have := (List.getElem?_eq_some_iff.1 (idx_get hm)).1; omega
      · simp only [back, idx_get hm]
    · by_cases h : l < Γ.σ.length
      · exact .inr ⟨h, hm⟩
      · have h2 : l < Γ.σ.length + (Γs'.σ.length - L.length) := by rw [← g1]; exact hl
        refine .inl ⟨L.length + (l - Γ.σ.length), by omega, ?_⟩
        simp only [back]
        rw [List.getElem?_eq_none (by omega)]
        simp only; omega
  have hold : ∀ l, l < Γ.σ.length → l ∉ L → Γ'.μ l = Γ.μ l ∧ Γ'.σ[l]? = Γ.σ[l]? := fun l hl hm => by
    refine ⟨by simp only [Γ', hm, if_false, hl, if_true], g3 l hl hm⟩
  have hext : Ext Γ Γ' := by
    refine ⟨hst.ext.size, hst.ext.os, hst.ext.tape, hst.ext.output, hst.ext.mono, hst.ext.cell, hst.ext.arr, by simp only [Γ', g1]; omega, fun l ob ho ht => ?_, fun l m ho => ?_⟩
    · have hl := (List.getElem?_eq_some_iff.1 ho).1
      by_cases hm : l ∈ L
      · have h1 := hren.σ l ob hm ho
        obtain ⟨⟨ob', h2, h3⟩, h4⟩ := hst.ext.fix (idx L l) _ h1 (by rw [Ob.isTip_ren]; exact ht)
        have hi := (List.getElem?_eq_some_iff.1 h2).1
        have hb : back L Γ.σ.length (idx L l) = l := by simp only [back, idx_get hm]
        obtain ⟨k1, k2⟩ := hback _ hi
        rw [hb] at k1 k2
        refine ⟨⟨ob'.ren (back L Γ.σ.length), by rw [k2, h2]; rfl, by rw [Ob.isTip_ren]; exact h3⟩, fun b hb' => ?_⟩
        rw [k1]
        exact h4 b (by rw [hren.μ l hm]; exact hb')
      · obtain ⟨k1, k2⟩ := hold l hl hm
        exact ⟨⟨ob, by rw [k2]; exact ho, ht⟩, fun b hb => by rw [k1]; exact hb⟩
    · have hl := (List.getElem?_eq_some_iff.1 ho).1
      by_cases hm : l ∈ L
      · have h1 := hren.σ l _ hm ho
        obtain ⟨m', h2, h3, h4, h5⟩ := hst.ext.tip (idx L l) m h1
        have hi := (List.getElem?_eq_some_iff.1 h2).1
        have hb : back L Γ.σ.length (idx L l) = l := by simp only [back, idx_get hm]
        obtain ⟨k1, k2⟩ := hback _ hi
        rw [hb] at k1 k2
        refine ⟨m', by rw [k2, h2]; rfl, h3, fun hs => ?_, fun e b hb' => ?_⟩
        · rw [k1]; exact h4 (by rw [hren.μ l hm]; exact hs)
        · rw [k1]; exact h5 e b (by rw [hren.μ l hm]; exact hb')
      · obtain ⟨k1, k2⟩ := hold l hl hm
        exact ⟨m, by rw [k2]; exact ho, Nat.le_refl _, fun hs => by rw [k1]; exact hs, fun _ b hb => by rw [k1]; exact hb⟩
  have hpart : ∀ i b, (Γ.part L σs).μ i = some b → ∃ l, L[i]? = some l ∧ Γ.μ l = some b := fun i b h => by
    simp only [Ctx.part] at h
    cases hl : L[i]? with
    | none => rw [hl] at h; cases h
    | some l => rw [hl] at h; exact ⟨l, rfl, h⟩
  have hsep : ∀ i l b, Γs'.μ i = some b → l < Γ.σ.length → l ∉ L → Γ.μ l = some b → False := fun i l b h1 h2 h3 h4 => by
    obtain ⟨j, hj⟩ := hst.frm.new i b h1 (hr.dom l b h4).2
    obtain ⟨l', hl', hm'⟩ := hpart j b hj
    have := hr.inj l l' b h4 hm'
    subst this
    exact h3 (List.mem_of_getElem? hl')
  refine ⟨Γ', rfl, rfl, ⟨fun l ob b ho hm => ?_, fun l b hm => ?_, fun l l' b hm hm' => ?_, hr'.imm⟩, ⟨hext, ⟨fun b hb hno => ?_, fun l b hm hb => ?_⟩, fun l hl hnone => ?_⟩, fun v x hx => Rep.ren hren' v x (Rep.lt v x hx) hx⟩
  · have hl := (List.getElem?_eq_some_iff.1 ho).1
    rcases hcase l hl with ⟨i, hi, rfl⟩ | ⟨h1, h2⟩
    · obtain ⟨k1, k2⟩ := hback i hi
      rw [k1] at hm
      rw [k2] at ho
      cases hs : Γs'.σ[i]? with
      | none => rw [hs] at ho; cases ho
      | some ob' =>
        rw [hs] at ho
        simp only [Option.map_some, Option.some.injEq] at ho
        subst ho
        have := hr'.obs i ob' b hs hm
        exact RepOb.ren hren' ob' (RepOb.lt ob' this) this
    · obtain ⟨k1, k2⟩ := hold l h1 h2
      rw [k1] at hm
      rw [k2] at ho
      have hb := (hr.dom l b hm).2
      obtain ⟨s1, s2⟩ := hst.frm.same b hb (fun i hi => by
        obtain ⟨l', hl', hm'⟩ := hpart i b hi
        have := hr.inj l l' b hm hm'
        subst this
        exact h2 (List.mem_of_getElem? hl'))
      exact RepOb.ext hext s1 s2 ob (hr.obs l ob b ho hm)
  · by_cases hl : l < Γ'.σ.length
    · rcases hcase l hl with ⟨i, hi, rfl⟩ | ⟨h1, h2⟩
      · rw [(hback i hi).1] at hm
        exact ⟨hl, (hr'.dom i b hm).2⟩
      · rw [(hold l h1 h2).1] at hm
        exact ⟨hl, Nat.lt_of_lt_of_le (hr.dom l b hm).2 hst.ext.size⟩
    · exfalso
      simp only [Γ'] at hm
      have hlen' : Γ'.σ.length = Γ.σ.length + (Γs'.σ.length - L.length) := g1
      have h1 : ¬ l ∈ L := fun h => by have := hlt l h; omega
      rw [if_neg h1, if_neg (by omega)] at hm
      have := (hr'.dom _ b hm).1
      omega
  · have bound : ∀ l b, Γ'.μ l = some b → (∃ i, i < Γs'.σ.length ∧ l = back L Γ.σ.length i ∧ Γs'.μ i = some b) ∨ (l < Γ.σ.length ∧ l ∉ L ∧ Γ.μ l = some b) := fun l b hm => by
      by_cases hl : l < Γ'.σ.length
      · rcases hcase l hl with ⟨i, hi, rfl⟩ | ⟨h1, h2⟩
        · rw [(hback i hi).1] at hm; exact .inl ⟨i, hi, rfl, hm⟩
        · rw [(hold l h1 h2).1] at hm; exact .inr ⟨h1, h2, hm⟩
      · exfalso
        simp only [Γ'] at hm
        have hlen' : Γ'.σ.length = Γ.σ.length + (Γs'.σ.length - L.length) := g1
        have h1 : ¬ l ∈ L := fun h => by have := hlt l h; omega
        rw [if_neg h1, if_neg (by omega)] at hm
        have := (hr'.dom _ b hm).1
        omega
    rcases bound l b hm with ⟨i, hi, rfl, h1⟩ | ⟨h1, h2, h3⟩ <;> rcases bound l' b hm' with ⟨j, hj, rfl, k1⟩ | ⟨k1, k2, k3⟩
    · rw [hr'.inj i j b h1 k1]
    · exact (hsep i l' b h1 k1 k2 k3).elim
    · exact (hsep j l b k1 h1 h2 h3).elim
    · exact hr.inj l l' b h3 k3
  · exact hst.frm.same b hb (fun i hi => by
      obtain ⟨l, _, hm⟩ := hpart i b hi
      exact hno l hm)
  · by_cases hl : l < Γ'.σ.length
    · rcases hcase l hl with ⟨i, hi, rfl⟩ | ⟨h1, h2⟩
      · rw [(hback i hi).1] at hm
        obtain ⟨j, hj⟩ := hst.frm.new i b hm hb
        obtain ⟨l', _, hm'⟩ := hpart j b hj
        exact ⟨l', hm'⟩
      · rw [(hold l h1 h2).1] at hm; exact ⟨l, hm⟩
    · exfalso
      simp only [Γ'] at hm
      have hlen' : Γ'.σ.length = Γ.σ.length + (Γs'.σ.length - L.length) := g1
      have h1 : ¬ l ∈ L := fun h => by have := hlt l h; omega
      rw [if_neg h1, if_neg (by omega)] at hm
      have := (hr'.dom _ b hm).1
      omega
  · by_cases hm : l ∈ L
    · have hi := (List.getElem?_eq_some_iff.1 (idx_get hm)).1
      have := hst.non (idx L l) (by simp only [Ctx.part, hlen]; exact hi) (by rw [hren.μ l hm]; exact hnone)
      simp only [Γ', hm, if_true, this]
    · rw [(hold l hl hm).1]; exact hnone
end Go.Pm
