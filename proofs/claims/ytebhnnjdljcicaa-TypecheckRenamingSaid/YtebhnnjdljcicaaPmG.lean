/- Each operation but the calls: where the abstract one goes through, the given one does, and they agree. -/
import Derived.Test.YtebhnnjdljcicaaPmE
namespace Go.Pm
variable {P : Program} {ids : FuncId → Option Nat} {fid : Fid} {N : Nat}

def Ties (ids : FuncId → Option Nat) (fid : Fid) : Prop := ∀ f g, ids f = some g → fid g = f

theorem ev_sound (hid : Ties ids fid) {Γ : Ctx} {fr : Fr} {a : Act} (hf : FrRep fid Γ N fr a.tmps) {x : Operand} {y : X} {v : V}
    (hc : cX ids N x = some y) (hv : y.ev fr = some v) : Rep fid Γ v (a.eval x) := by
  cases x with
  | tmp t =>
    simp only [cX] at hc
    split at hc
    · rename_i ht
      cases hc
      exact hf.2 t v ht hv
    · cases hc
  | const c =>
    simp only [cX] at hc
    split at hc
    · rename_i hn
      cases hc
      simp only [X.ev, Option.some.injEq] at hv
      subst hv
      simp [Rep, RepD, Act.eval, hn]
    · cases hc
  | global g => simp [cX] at hc
  | func f =>
    simp only [cX, Option.map_eq_some_iff] at hc
    obtain ⟨g, hg, rfl⟩ := hc
    simp only [X.ev, Option.some.injEq] at hv
    subst hv
    simp only [Rep, Act.eval, hid f g hg]
    exact ⟨[], [], rfl, rfl, rfl⟩
theorem evs_sound (hid : Ties ids fid) {Γ : Ctx} {fr : Fr} {a : Act} (hf : FrRep fid Γ N fr a.tmps) : ∀ {xs : List Operand} {ys : List X} {vs : List V},
    cXs ids N xs = some ys → evs fr ys = some vs → Reps fid Γ vs (xs.map a.eval)
  | [], ys, vs, hc, hv => by
    simp only [cXs, Option.some.injEq] at hc; subst hc
    simp only [evs, Option.some.injEq] at hv; subst hv
    simp [Reps]
  | x :: xs, ys, vs, hc, hv => by
    simp only [cXs] at hc
    split at hc
    · rename_i y ys' h1 h2
      cases hc
      simp only [evs] at hv
      split at hv
      · rename_i v vs' h3 h4
        cases hv
        simp only [List.map_cons, Reps]
        exact ⟨_, _, rfl, ev_sound hid hf h1 h3, evs_sound hid hf h2 h4⟩
      · cases hv
    · cases hc

/-- The end of an operation that hands back a value. -/
theorem wp_value {F : Fence} {n : Nat} {o : Oper} {a : Act} {w w' : World} {K : Act → World → Prop} {Q : Exit → Act → World → Prop} {x : Value} (hF : ∀ f, F.fn f)
    (hd : ∀ c, o.op ≠ .defer c) (h : (execOp a.eval o).run P w = .ok (.value x) w') (hk : K (a.put o.dst x) w') : o.wpIn F n P a w K Q :=
  ⟨fun f _ => hF f, by rw [Oper.semAt_eq _ _ _ hd, h]; exact hk⟩
theorem wp_skipped {F : Fence} {n : Nat} {o : Oper} {a : Act} {w w' : World} {K : Act → World → Prop} {Q : Exit → Act → World → Prop} (hF : ∀ f, F.fn f)
    (hd : ∀ c, o.op ≠ .defer c) (h : (execOp a.eval o).run P w = .ok .skip w') (hk : K (a.put o.dst undef) w') : o.wpIn F n P a w K Q :=
  ⟨fun f _ => hF f, by rw [Oper.semAt_eq _ _ _ hd, h]; exact hk⟩
/-- What an operation comes to. -/
def Comes (P : Program) (fid : Fid) (Γ : Ctx) (ρ : Operand → Value) (o : Oper) (v : V) (σ' : S) : Prop :=
  ∃ (Γ' : Ctx) (x : Value), Γ'.σ = σ' ∧ Real fid Γ' ∧ Step Γ Γ' ∧ Rep fid Γ' v x ∧
    ((execOp ρ o).run P Γ.w = .ok (.value x) Γ'.w ∨ ((execOp ρ o).run P Γ.w = .ok .skip Γ'.w ∧ x = undef))
theorem Comes.wp {F : Fence} {n : Nat} {o : Oper} {a : Act} {K : Act → World → Prop} {Q : Exit → Act → World → Prop} {Γ : Ctx} {v : V} {σ' : S} (hF : ∀ f, F.fn f)
    (hd : ∀ c, o.op ≠ .defer c) (h : Comes P fid Γ a.eval o v σ')
    (hk : ∀ Γ' x, Γ'.σ = σ' → Real fid Γ' → Step Γ Γ' → Rep fid Γ' v x → K (a.put o.dst x) Γ'.w) : o.wpIn F n P a Γ.w K Q := by
  obtain ⟨Γ', x, h1, h2, h3, h4, h5⟩ := h
  rcases h5 with h5 | ⟨h5, rfl⟩
  · exact wp_value hF hd h5 (hk Γ' x h1 h2 h3 h4)
  · exact wp_skipped hF hd h5 (hk Γ' _ h1 h2 h3 h4)
/-- It computes: the world stays. -/
theorem Comes.pure {Γ : Ctx} (hr : Real fid Γ) {ρ : Operand → Value} {o : Oper} {v : V} {x : Value} (h : (execOp ρ o).run P Γ.w = .ok (.value x) Γ.w) (hx : Rep fid Γ v x) :
    Comes P fid Γ ρ o v Γ.σ := ⟨Γ, x, rfl, hr, .refl _, hx, .inl h⟩

section
variable {Γ : Ctx} {fr : Fr} {ρ : Operand → Value} {o : Oper} {v : V} {σ' : S} {C : Task → Option Res}

theorem c_box (hr : Real fid Γ) {t : TypeId} {x : Operand} {u : V} (ho : o.op = .box t x) (hu : Rep fid Γ u (ρ x)) : Comes P fid Γ ρ o (.ptr Γ.σ.length 0) (Γ.σ ++ [.cells u.cells]) := by
  obtain ⟨h1, h2⟩ := allocOb hr (.cells u.cells) (.cells (ρ x).cells t) 0
    (fun Γ' e hx => by
      subst e
      simp only [RepOb, grow, if_pos]
      exact ⟨trivial, (ρ x).cells, t, heap_alloc_new _ _, Reps.ext hx _ _ (Rep_cells hu)⟩) (fun h => absurd h (Nat.lt_irrefl _))
  refine ⟨_, .pointer (some ⟨Γ.w.heap.size, 0, none⟩), rfl, h1, h2, ?_, .inl ?_⟩
  · simp only [Rep]
    refine ⟨Γ.w.heap.size, by simp [bind], rfl, ⟨.cells u.cells, by simp, rfl⟩⟩
  · simp only [execOp, ho, Instr.box, newVar, newRow]
    simp
theorem c_alloc (hr : Real fid Γ) {t : TypeId} {z : Value} (ho : o.op = .alloc t) (hz : zeroT P t = some z) : Comes P fid Γ ρ o (.ptr Γ.σ.length 0) (Γ.σ ++ [.cells ((litCells z).map .dat)]) := by
  obtain ⟨h1, h2⟩ := allocOb hr (.cells ((litCells z).map .dat)) (.cells z.cells t) 0
    (fun Γ' e hx => by
      subst e
      simp only [RepOb, grow, if_pos]
      exact ⟨trivial, z.cells, t, heap_alloc_new _ _, Reps_dat.2 (RepDs_litCells (zeroT_ok hz))⟩) (fun h => absurd h (Nat.lt_irrefl _))
  refine ⟨_, .pointer (some ⟨Γ.w.heap.size, 0, none⟩), rfl, h1, h2, ?_, .inl ?_⟩
  · simp only [Rep]
    refine ⟨Γ.w.heap.size, by simp [bind], rfl, ⟨.cells ((litCells z).map .dat), by simp, rfl⟩⟩
  · simp only [execOp, ho, Instr.alloc, newVar, newRow]
    simp [run_zeroValue hz]
theorem c_mkmap (hr : Real fid Γ) {t : TypeId} (ho : o.op = .makeMap t none) : Comes P fid Γ ρ o (.mp Γ.σ.length) (Γ.σ ++ [.map []]) := by
  obtain ⟨h1, h2⟩ := allocOb hr (.map []) (.map #[] 0) 0
    (fun Γ' e hx => by
      subst e
      simp only [RepOb, grow, if_pos]
      exact ⟨trivial, #[], 0, heap_alloc_new _ _, rfl⟩) (fun h => absurd h (Nat.lt_irrefl _))
  refine ⟨_, .map (some Γ.w.heap.size), rfl, h1, h2, ?_, .inl ?_⟩
  · simp only [Rep]
    refine ⟨Γ.w.heap.size, by simp [bind], rfl, ⟨.map [], by simp, rfl⟩⟩
  · simp only [execOp, ho, Instr.makeMap, Option.map_none]
    simp

theorem run_load_ptr (hr : Real fid Γ) {t : TypeId} {agg : Bool} {n l off b : Nat} {cs vs : List V} {u : V} (hs : (agg = true ∧ isAggT P t = some true ∧ sizeT P t = some n) ∨ (agg = false ∧ isAggT P t = some false ∧ n = 1))
    (ho : Γ.σ[l]? = some (.cells cs)) (hm : Γ.μ l = some b) (hc : cutCells cs off n = some vs) (hu : ofCells agg vs = some u) :
    ∃ x, (loadVar t ⟨b, off, none⟩).run P Γ.w = .ok x Γ.w ∧ Rep fid Γ u x := by
  obtain ⟨_, arr, e, h2, h3⟩ := hr.obs l _ b ho hm
  obtain ⟨c1, c2, c3⟩ := cutCells_eq hc
  have h4 : Reps fid Γ vs ((arr.toList.drop off).take n) := by rw [c1]; exact Reps_take (Reps_drop h3 off) n
  have hlen := Reps.length h3
  have hcell : ∀ j x, ((arr.toList.drop off).take n)[j]? = some x → Γ.w.cell? ⟨b, off + j, none⟩ = some x := fun j x hj => by
    simp only [World.cell?, h2]
    rw [List.getElem?_take] at hj
    split at hj
    · rw [List.getElem?_drop] at hj
      simpa using hj
    · cases hj
  have hl : ((arr.toList.drop off).take n).length = n := by rw [Reps.length h4, c2]
  rcases hs with ⟨rfl, ha, hsz⟩ | ⟨rfl, ha, rfl⟩
  · rcases Reps_ofCells h4 hu with ⟨_, h5⟩ | ⟨h5, _⟩
    · exact ⟨_, run_loadVar_agg ha (by rw [hl]; exact hsz) hcell, h5⟩
    · cases h5
  · rcases Reps_ofCells h4 hu with ⟨h5, _⟩ | ⟨_, x, hx, h5⟩
    · cases h5
    · exact ⟨x, run_loadVar_one ha (by have := hcell 0 x (by rw [hx]; rfl); simpa using this), h5⟩
theorem run_load_imm {t : TypeId} {agg : Bool} {n off b o' : Nat} {cs ds : List D} {xs : List Value} {u : V} (hs : (agg = true ∧ isAggT P t = some true ∧ sizeT P t = some n) ∨ (agg = false ∧ isAggT P t = some false ∧ n = 1))
    (h3 : RepDs Γ.F Γ.w cs xs) (h4 : Row Γ.F Γ.w b o' xs) (hc : cutCells cs off n = some ds) (hu : ofDs agg ds = some u) :
    ∃ x, (loadVar t ⟨b, o' + off, none⟩).run P Γ.w = .ok x Γ.w ∧ Rep fid Γ u x := by
  obtain ⟨c1, c2, c3⟩ := cutCells_eq hc
  have h5 : RepDs Γ.F Γ.w ds ((xs.drop off).take n) := by rw [c1]; exact RepDs_take (RepDs_drop h3 off) n
  have hcell : ∀ j x, ((xs.drop off).take n)[j]? = some x → Γ.w.cell? ⟨b, o' + off + j, none⟩ = some x := fun j x hj => by
    rw [List.getElem?_take] at hj
    split at hj
    · rw [List.getElem?_drop] at hj
      rw [Nat.add_assoc]
      exact h4.1 _ _ hj
    · cases hj
  have hl : ((xs.drop off).take n).length = n := by rw [RepDs.length h5, c2]
  rcases hs with ⟨rfl, ha, hsz⟩ | ⟨rfl, ha, rfl⟩
  · simp [ofDs] at hu; subst hu
    refine ⟨_, run_loadVar_agg ha (by rw [hl]; exact hsz) hcell, ?_⟩
    simp only [Rep, RepD]
    exact ⟨_, rfl, h5⟩
  · simp only [ofDs, Bool.false_eq_true, if_false] at hu
    split at hu
    · cases hu
      simp only [RepDs] at h5
      obtain ⟨x, ys, h6, h7, rfl⟩ := h5
      exact ⟨x, run_loadVar_one ha (by have := hcell 0 x (by rw [h6]; rfl); simpa using this), by simpa [Rep] using h7⟩
    · cases hu
theorem run_loadV (hr : Real fid Γ) {t : TypeId} {agg : Bool} {n : Nat} {p u : V} {x : Value} (hs : (agg = true ∧ isAggT P t = some true ∧ sizeT P t = some n) ∨ (agg = false ∧ isAggT P t = some false ∧ n = 1))
    (hp : Rep fid Γ p x) (hl : loadV Γ.σ agg n p = some u) : ∃ ad y, x = .pointer (some ad) ∧ (loadVar t ad).run P Γ.w = .ok y Γ.w ∧ Rep fid Γ u y := by
  unfold loadV at hl
  split at hl
  · rename_i l off
    simp only [Rep] at hp
    obtain ⟨b, hm, rfl, _⟩ := hp
    split at hl
    · rename_i cs hcs
      split at hl
      · rename_i vs hvs
        obtain ⟨y, h1, h2⟩ := run_load_ptr hr hs hcs hm hvs hl
        exact ⟨_, y, rfl, h1, h2⟩
      · cases hl
    · cases hl
  · rename_i cs off
    simp only [Rep, RepD] at hp
    obtain ⟨b, o', xs, rfl, h3, h4⟩ := hp
    split at hl
    · rename_i ds hds
      obtain ⟨y, h1, h2⟩ := run_load_imm hs h3 h4 hds hl
      exact ⟨_, y, rfl, h1, h2⟩
    · cases hl
  · cases hl
theorem c_load (hr : Real fid Γ) {t : TypeId} {agg : Bool} {n : Nat} {x : Operand} {p u : V} (ho : o.op = .load t x) (hs : (agg = true ∧ isAggT P t = some true ∧ sizeT P t = some n) ∨ (agg = false ∧ isAggT P t = some false ∧ n = 1))
    (hp : Rep fid Γ p (ρ x)) (hl : loadV Γ.σ agg n p = some u) : Comes P fid Γ ρ o u Γ.σ := by
  obtain ⟨ad, y, h1, h2, h3⟩ := run_loadV hr hs hp hl
  refine .pure hr (x := y) ?_ h3
  simp only [execOp, ho, Instr.loadAt, h1, Instr.sureAddr]
  simp [h2]
theorem c_store (hr : Real fid Γ) {t : TypeId} {n : Nat} {x y : Operand} {p u : V} (ho : o.op = .store t x y) (hs : sizeT P t = some n)
    (hp : Rep fid Γ p (ρ x)) (hu : Rep fid Γ u (ρ y)) (hl : storeV Γ.σ n p u = some σ') : Comes P fid Γ ρ o (.dat (.lit undef)) σ' := by
  unfold storeV at hl
  split at hl
  · rename_i l off
    simp only [Rep] at hp
    obtain ⟨b, hm, hx, _⟩ := hp
    split at hl
    · rename_i cs hcs
      simp only at hl
      split at hl
      · rename_i hcond
        obtain ⟨c1, c2, c3⟩ := hcond
        cases hl
        obtain ⟨hF, arr, e, h2, h3⟩ := hr.obs l _ b hcs hm
        have hcells := Rep_cells hu
        have hlen := Reps.length h3
        have hlen' := Reps.length hcells
        obtain ⟨w', k1, k2, arr', k3, k4⟩ := run_storeVar (P := P) (o := off) hs (by simpa [c1] using hlen') h2 (Reps_one hcells c3) (by rw [Array.length_toList] at hlen; omega)
        obtain ⟨u1, u2⟩ := upd hr hcs rfl (ob' := .cells (cs.take off ++ (u.cells ++ cs.drop (off + n)))) rfl hm k2 (fun hx => by
          simp only [RepOb]
          refine ⟨hF, arr', e, k3, ?_⟩
          rw [k4]
          refine Reps_append.2 ⟨_, _, rfl, Reps.ext hx _ _ (Reps_take h3 off), Reps_append.2 ⟨_, _, rfl, Reps.ext hx _ _ hcells, Reps.ext hx _ _ (Reps_drop h3 _)⟩⟩)
        refine ⟨_, undef, rfl, u1, u2, by simp [Rep, RepD, noAgg, undef], .inr ⟨?_, rfl⟩⟩
        simp only [execOp, ho, Instr.storeAt, hx, Instr.sureAddr]
        simp [k1]
      · cases hl
    · cases hl
  · cases hl
end
end Go.Pm
