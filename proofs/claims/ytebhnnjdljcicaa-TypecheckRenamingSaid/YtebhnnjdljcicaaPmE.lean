/- The given operations' runs, where the abstract ones go through. -/
import Derived.Test.YtebhnnjdljcicaaPmD
namespace Go.Pm
variable {P : Program}

theorem run_underlying {t : TypeId} {d : TypeDesc} (h : P.underlying t = some d) (w : World) : (underlying t).run P w = .ok d w := by
  simp [underlying, h]
theorem run_typeInfo {t : TypeId} {i : TypeInfo} (h : P.info? t = some i) (w : World) : (typeInfo t).run P w = .ok i w := by
  simp [typeInfo, h]
theorem run_sizeOf {t : TypeId} {n : Nat} (h : sizeT P t = some n) (w : World) : (sizeOf t).run P w = .ok n w := by
  unfold sizeT at h
  cases hi : P.info? t with
  | none => rw [hi] at h; cases h
  | some i => rw [hi] at h; cases h; simp [sizeOf, run_typeInfo hi]
theorem run_zeroValue {t : TypeId} {z : Value} (h : zeroT P t = some z) (w : World) : (zeroValue t).run P w = .ok z w := by
  unfold zeroT at h
  cases hi : P.info? t with
  | none => rw [hi] at h; cases h
  | some i =>
    rw [hi] at h
    simp only [Option.bind_some] at h
    cases hz : i.zero with
    | none => rw [hz] at h; cases h
    | some z' =>
      rw [hz] at h
      simp only at h
      split at h
      · cases h; simp [zeroValue, run_typeInfo hi, hz]
      · cases h
theorem zeroT_ok {t : TypeId} {z : Value} (h : zeroT P t = some z) : cellsOk z = true := by
  unfold zeroT at h
  split at h
  · split at h
    · rename_i hz; cases h; exact hz
    · cases h
  · cases h
theorem run_isAgg {t : TypeId} {b : Bool} (h : isAggT P t = some b) (w : World) : (isAgg t).run P w = .ok b w := by
  unfold isAggT at h
  cases hu : P.underlying t with
  | none => rw [hu] at h; cases h
  | some d =>
    rw [hu] at h
    simp only [isAgg, Sem.run_bind, run_underlying hu, Result.andThen_ok]
    cases d <;> simp_all
theorem add_none (b o i : Nat) : (⟨b, o, none⟩ : Addr).add i = ⟨b, o + i, none⟩ := by
  unfold Addr.add
  split
  · rename_i h; subst h; rfl
  · rfl
theorem run_load_cell {a : Addr} {v : Value} {w : World} (h : w.cell? a = some v) : (load a).run P w = .ok v w := by
  simp [h]
theorem run_loadCellsFrom (w : World) (b o : Nat) : ∀ (vs : List Value) (i : Nat) (acc : Array Value),
    (∀ j v, vs[j]? = some v → w.cell? ⟨b, o + (i + j), none⟩ = some v) →
    (loadCellsFrom ⟨b, o, none⟩ i vs.length acc).run P w = .ok (acc ++ vs.toArray) w
  | [], i, acc, _ => by simp [loadCellsFrom]
  | v :: vs, i, acc, h => by
    have h0 := h 0 v (by simp)
    have ih := run_loadCellsFrom w b o vs (i + 1) (acc.push v) (fun j u hj => by
      have := h (j + 1) u (by simpa using hj)
      rw [show i + 1 + j = i + (j + 1) from by omega]; exact this)
    simp only [List.length_cons, loadCellsFrom, Sem.run_bind, add_none]
    rw [run_load_cell (by simpa using h0)]
    simp only [Result.andThen_ok, ih]
    congr 1
    apply Array.ext'
    simp
theorem run_loadCells {w : World} {b o : Nat} {vs : List Value} (h : ∀ j v, vs[j]? = some v → w.cell? ⟨b, o + j, none⟩ = some v) :
    (loadCells ⟨b, o, none⟩ vs.length).run P w = .ok vs.toArray w := by
  have := run_loadCellsFrom (P := P) w b o vs 0 #[] (by simpa using h)
  simpa [loadCells] using this
theorem run_loadVar_agg {t : TypeId} {w : World} {b o : Nat} {vs : List Value} (ha : isAggT P t = some true) (hs : sizeT P t = some vs.length)
    (h : ∀ j v, vs[j]? = some v → w.cell? ⟨b, o + j, none⟩ = some v) : (loadVar t ⟨b, o, none⟩).run P w = .ok (.agg vs.toArray) w := by
  simp [loadVar, run_isAgg ha, run_sizeOf hs, run_loadCells h]
theorem run_loadVar_one {t : TypeId} {w : World} {a : Addr} {v : Value} (ha : isAggT P t = some false) (h : w.cell? a = some v) :
    (loadVar t a).run P w = .ok v w := by
  simp only [loadVar, Sem.run_bind, run_isAgg ha, Result.andThen_ok]
  simp [h]

/-- Stores of cells into a row. -/
theorem run_storeCells : ∀ (vs : List Value) (i : Nat) (w : World) (b o : Nat) (arr : Array Value) (e : TypeId),
    w.heap[b]? = some (.cells arr e (0, 0)) → (∀ v ∈ vs, v.oneCell' = true) → o + i + vs.length ≤ arr.size →
    ∃ w', (storeCells ⟨b, o, none⟩ vs i).run P w = .ok () w' ∧ WOnly b w w' ∧
      ∃ arr', w'.heap[b]? = some (.cells arr' e (0, 0)) ∧ arr'.toList = arr.toList.take (o + i) ++ (vs ++ arr.toList.drop (o + i + vs.length))
  | [], i, w, b, o, arr, e, hb, _, _ => ⟨w, by simp [storeCells], .refl _ _, arr, hb, by simp⟩
  | v :: vs, i, w, b, o, arr, e, hb, h1, hlen => by
    simp only [List.length_cons] at hlen
    have hcell : ∃ u, w.cell? ⟨b, o + i, none⟩ = some u := by
      refine ⟨arr[o + i]'(by omega), ?_⟩
      simp only [World.cell?, hb]
      simp
    obtain ⟨u, hu⟩ := hcell
    have hfz : w.frozen? ⟨b, o + i, none⟩ = false := by simp [World.frozen?, hb]
    have hb' : (w.setCell ⟨b, o + i, none⟩ v).heap[b]? = some (.cells (arr.setIfInBounds (o + i) v) e (0, 0)) := by
      simp only [World.setCell, Array.getElem?_modify, hb]
      simp
    have hw : WOnly b w (w.setCell ⟨b, o + i, none⟩ v) := ⟨rfl, rfl, rfl, by simp, fun k hk => by simp only [World.setCell, Array.getElem?_modify]; rw [if_neg (Ne.symm hk)]⟩
    obtain ⟨w', hr, hw', arr', ha', hl⟩ := run_storeCells vs (i + 1) (w.setCell ⟨b, o + i, none⟩ v) b o (arr.setIfInBounds (o + i) v) e hb'
      (fun x hx => h1 x (List.mem_cons_of_mem _ hx)) (by simp; omega)
    refine ⟨w', ?_, hw.trans hw', arr', ha', ?_⟩
    · simp only [storeCells, Sem.run_bind, add_none]
      rw [run_store P w _ v .plain (h1 v (by simp)), hu]
      simp [hfz, hr]
    · rw [hl, Array.toList_setIfInBounds]
      have hlt : o + i < arr.toList.length := by rw [Array.length_toList]; omega
      rw [show o + (i + 1) = o + i + 1 from by omega]
      rw [List.take_succ_eq_append_getElem (by simpa using hlt), List.getElem_set_self, List.take_set_of_le (Nat.le_refl _), List.drop_set_of_lt (by omega)]
      simp
      try omega
theorem run_storeVar {t : TypeId} {x : Value} {n : Nat} {w : World} {b o : Nat} {arr : Array Value} {e : TypeId} (hs : sizeT P t = some n) (hx : x.cells.size = n)
    (hb : w.heap[b]? = some (.cells arr e (0, 0))) (h1 : ∀ v ∈ x.cells.toList, v.oneCell' = true) (hlen : o + n ≤ arr.size) :
    ∃ w', (storeVar t ⟨b, o, none⟩ x).run P w = .ok () w' ∧ WOnly b w w' ∧
      ∃ arr', w'.heap[b]? = some (.cells arr' e (0, 0)) ∧ arr'.toList = arr.toList.take o ++ (x.cells.toList ++ arr.toList.drop (o + n)) := by
  obtain ⟨w', h1, h2, arr', h3, h4⟩ := run_storeCells (P := P) x.cells.toList 0 w b o arr e hb h1 (by simp [hx]; omega)
  refine ⟨w', ?_, h2, arr', h3, by simpa [hx] using h4⟩
  simp only [storeVar, Sem.run_bind, run_sizeOf hs, Result.andThen_ok]
  simp [hx, h1]

/-! ## the abstract values' cells -/
theorem RepDs_append {F : Nat → Nat} {w : World} : ∀ {a b : List D} {xs : List Value}, RepDs F w (a ++ b) xs ↔ ∃ ys zs, xs = ys ++ zs ∧ RepDs F w a ys ∧ RepDs F w b zs
  | [], b, xs => by
    simp only [List.nil_append, RepDs]
    exact ⟨fun h => ⟨[], xs, rfl, rfl, h⟩, fun ⟨ys, zs, h1, h2, h3⟩ => by subst h2; simpa [h1] using h3⟩
  | d :: a, b, xs => by
    simp only [List.cons_append, RepDs, RepDs_append (a := a) (b := b)]
    constructor
    · rintro ⟨x, ys, rfl, h1, y, z, rfl, h2, h3⟩
      exact ⟨x :: y, z, rfl, ⟨x, y, rfl, h1, h2⟩, h3⟩
    · rintro ⟨ys, zs, rfl, ⟨x, y, rfl, h1, h2⟩, h3⟩
      exact ⟨x, y ++ zs, rfl, h1, y, zs, rfl, h2, h3⟩
theorem Reps_append {fid : Fid} {Γ : Ctx} : ∀ {a b : List V} {xs : List Value}, Reps fid Γ (a ++ b) xs ↔ ∃ ys zs, xs = ys ++ zs ∧ Reps fid Γ a ys ∧ Reps fid Γ b zs
  | [], b, xs => by
    simp only [List.nil_append, Reps]
    exact ⟨fun h => ⟨[], xs, rfl, rfl, h⟩, fun ⟨ys, zs, h1, h2, h3⟩ => by subst h2; simpa [h1] using h3⟩
  | d :: a, b, xs => by
    simp only [List.cons_append, Reps, Reps_append (a := a) (b := b)]
    constructor
    · rintro ⟨x, ys, rfl, h1, y, z, rfl, h2, h3⟩
      exact ⟨x :: y, z, rfl, ⟨x, y, rfl, h1, h2⟩, h3⟩
    · rintro ⟨ys, zs, rfl, ⟨x, y, rfl, h1, h2⟩, h3⟩
      exact ⟨x, y ++ zs, rfl, h1, y, zs, rfl, h2, h3⟩
theorem RepDs_drop {F : Nat → Nat} {w : World} {ds : List D} {xs : List Value} (h : RepDs F w ds xs) (n : Nat) : RepDs F w (ds.drop n) (xs.drop n) := by
  by_cases hn : n ≤ ds.length
  · obtain ⟨a, b, rfl, rfl⟩ : ∃ a b, ds = a ++ b ∧ a.length = n := ⟨ds.take n, ds.drop n, (List.take_append_drop n ds).symm, by simp; omega⟩
    obtain ⟨ys, zs, rfl, h1, h2⟩ := RepDs_append.1 h
    have := h1.length
    rw [List.drop_left' rfl, List.drop_left' (by omega)]
    exact h2
  · rw [List.drop_of_length_le (by omega), List.drop_of_length_le (by have := h.length; omega)]
    simp [RepDs]
theorem RepDs_take {F : Nat → Nat} {w : World} {ds : List D} {xs : List Value} (h : RepDs F w ds xs) (n : Nat) : RepDs F w (ds.take n) (xs.take n) := by
  by_cases hn : n ≤ ds.length
  · obtain ⟨a, b, rfl, rfl⟩ : ∃ a b, ds = a ++ b ∧ a.length = n := ⟨ds.take n, ds.drop n, (List.take_append_drop n ds).symm, by simp; omega⟩
    obtain ⟨ys, zs, rfl, h1, h2⟩ := RepDs_append.1 h
    have := h1.length
    rw [List.take_left' rfl, List.take_left' (by omega)]
    exact h1
  · rw [List.take_of_length_le (by omega), List.take_of_length_le (by have := h.length; omega)]
    exact h
theorem Reps_drop {fid : Fid} {Γ : Ctx} {ds : List V} {xs : List Value} (h : Reps fid Γ ds xs) (n : Nat) : Reps fid Γ (ds.drop n) (xs.drop n) := by
  by_cases hn : n ≤ ds.length
  · obtain ⟨a, b, rfl, rfl⟩ : ∃ a b, ds = a ++ b ∧ a.length = n := ⟨ds.take n, ds.drop n, (List.take_append_drop n ds).symm, by simp; omega⟩
    obtain ⟨ys, zs, rfl, h1, h2⟩ := Reps_append.1 h
    have := h1.length
    rw [List.drop_left' rfl, List.drop_left' (by omega)]
    exact h2
  · rw [List.drop_of_length_le (by omega), List.drop_of_length_le (by have := h.length; omega)]
    simp [Reps]
theorem Reps_take {fid : Fid} {Γ : Ctx} {ds : List V} {xs : List Value} (h : Reps fid Γ ds xs) (n : Nat) : Reps fid Γ (ds.take n) (xs.take n) := by
  by_cases hn : n ≤ ds.length
  · obtain ⟨a, b, rfl, rfl⟩ : ∃ a b, ds = a ++ b ∧ a.length = n := ⟨ds.take n, ds.drop n, (List.take_append_drop n ds).symm, by simp; omega⟩
    obtain ⟨ys, zs, rfl, h1, h2⟩ := Reps_append.1 h
    have := h1.length
    rw [List.take_left' rfl, List.take_left' (by omega)]
    exact h1
  · rw [List.take_of_length_le (by omega), List.take_of_length_le (by have := h.length; omega)]
    exact h
theorem Reps_dat {fid : Fid} {Γ : Ctx} : ∀ {ds : List D} {xs : List Value}, Reps fid Γ (ds.map .dat) xs ↔ RepDs Γ.F Γ.w ds xs
  | [], xs => by simp [Reps, RepDs]
  | d :: ds, xs => by simp [Reps, RepDs, Rep, Reps_dat]
theorem allDat_eq : ∀ {vs : List V} {ds : List D}, allDat vs = some ds → vs = ds.map .dat
  | [], ds, h => by simp [allDat] at h; subst h; rfl
  | v :: vs, ds, h => by
    cases v with
    | dat d =>
      simp only [allDat] at h
      split at h
      · rename_i ds' h'
        cases h
        rw [allDat_eq h']; rfl
      · cases h
    | _ => simp [allDat] at h
theorem Rep_mkAgg {fid : Fid} {Γ : Ctx} {vs : List V} {xs : List Value} (h : Reps fid Γ vs xs) : Rep fid Γ (mkAgg vs) (.agg xs.toArray) := by
  unfold mkAgg
  split
  · rename_i ds hd
    have := allDat_eq hd
    subst this
    simp only [Rep, RepD]
    exact ⟨xs, rfl, Reps_dat.1 h⟩
  · simp only [Rep]
    exact ⟨xs, rfl, h⟩
theorem cells_noAgg {x : Value} (h : noAgg x = true) : x.cells = #[x] := by
  cases x <;> simp_all [noAgg, Value.cells]
theorem Rep_cells {fid : Fid} {Γ : Ctx} {v : V} {x : Value} (h : Rep fid Γ v x) : Reps fid Γ v.cells x.cells.toList := by
  have single : ∀ u, noAgg x = true → v = u → v.cells = [u] → Reps fid Γ v.cells x.cells.toList := fun u hx hv hc => by
    rw [hc, cells_noAgg hx, ← hv]
    simp [Reps, h]
  cases v with
  | dat d =>
    cases d with
    | lit v => simp only [Rep, RepD] at h; exact single _ (by rw [h.1]; exact h.2) rfl rfl
    | sl cs n f => simp only [Rep, RepD] at h; obtain ⟨b, o, cap, vs, rfl, _⟩ := h; exact single _ rfl rfl rfl
    | imm cs o => simp only [Rep, RepD] at h; obtain ⟨b, o, vs, rfl, _⟩ := h; exact single _ rfl rfl rfl
    | agg cs =>
      simp only [Rep, RepD] at h
      obtain ⟨vs, rfl, h⟩ := h
      simpa [V.cells, Value.cells] using Reps_dat.2 h
    | iface t d => simp only [Rep, RepD] at h; obtain ⟨y, rfl, _⟩ := h; exact single _ rfl rfl rfl
  | ptr l o => simp only [Rep] at h; obtain ⟨b, _, rfl, _⟩ := h; exact single _ rfl rfl rfl
  | gsl cs n sz l => simp only [Rep] at h; obtain ⟨b, cap, vs, m, rfl, _⟩ := h; exact single _ rfl rfl rfl
  | msl l o n cap => simp only [Rep] at h; obtain ⟨b, _, rfl, _⟩ := h; exact single _ rfl rfl rfl
  | agg cs =>
    simp only [Rep] at h
    obtain ⟨vs, rfl, h⟩ := h
    simpa [V.cells, Value.cells] using h
  | fn f a b => simp only [Rep] at h; obtain ⟨as, bs, rfl, _⟩ := h; exact single _ rfl rfl rfl
  | mp l => simp only [Rep] at h; obtain ⟨b, _, rfl, _⟩ := h; exact single _ rfl rfl rfl
  | iface t v => simp only [Rep] at h; obtain ⟨y, rfl, _⟩ := h; exact single _ rfl rfl rfl
  | tup vs => simp only [Rep] at h; obtain ⟨xs, rfl, _⟩ := h; exact single _ rfl rfl rfl
  | yld l => simp only [Rep] at h; obtain ⟨b, _, rfl, _⟩ := h; exact single _ rfl rfl rfl
/-- What may lie in one cell is one cell. -/
theorem Rep_one {fid : Fid} {Γ : Ctx} {v : V} {x : Value} (h : Rep fid Γ v x) (h1 : v.one = true) : x.oneCell' = true := by
  cases v with
  | dat d =>
    cases d with
    | lit v => simp only [Rep, RepD] at h; rw [h.1]; exact h1
    | sl cs n f => simp only [Rep, RepD] at h; obtain ⟨b, o, cap, vs, rfl, _⟩ := h; rfl
    | imm cs o => simp only [Rep, RepD] at h; obtain ⟨b, o, vs, rfl, _⟩ := h; rfl
    | agg cs => simp [V.one] at h1
    | iface t d => simp only [Rep, RepD] at h; obtain ⟨y, rfl, _⟩ := h; rfl
  | ptr l o => simp only [Rep] at h; obtain ⟨b, _, rfl, _⟩ := h; rfl
  | gsl cs n sz l => simp only [Rep] at h; obtain ⟨b, cap, vs, m, rfl, _⟩ := h; rfl
  | msl l o n cap => simp only [Rep] at h; obtain ⟨b, _, rfl, _⟩ := h; rfl
  | agg cs => simp [V.one] at h1
  | fn f a b => simp only [Rep] at h; obtain ⟨as, bs, rfl, _⟩ := h; rfl
  | mp l => simp only [Rep] at h; obtain ⟨b, _, rfl, _⟩ := h; rfl
  | iface t v => simp only [Rep] at h; obtain ⟨y, rfl, _⟩ := h; rfl
  | tup vs => simp [V.one] at h1
  | yld l => simp only [Rep] at h; obtain ⟨b, _, rfl, _⟩ := h; rfl
theorem Reps_one {fid : Fid} {Γ : Ctx} : ∀ {vs : List V} {xs : List Value}, Reps fid Γ vs xs → vs.all V.one = true → ∀ x ∈ xs, x.oneCell' = true
  | [], xs, h, _, x, hx => by simp only [Reps] at h; subst h; cases hx
  | v :: vs, xs, h, ha, x, hx => by
    simp only [Reps] at h
    obtain ⟨y, ys, rfl, h1, h2⟩ := h
    simp only [List.all_cons, Bool.and_eq_true] at ha
    rcases List.mem_cons.1 hx with rfl | hx
    · exact Rep_one h1 ha.1
    · exact Reps_one h2 ha.2 x hx
theorem Reps_ofCells {fid : Fid} {Γ : Ctx} {agg : Bool} {vs : List V} {xs : List Value} {v : V} (h : Reps fid Γ vs xs) (ho : ofCells agg vs = some v) :
    (agg = true ∧ Rep fid Γ v (.agg xs.toArray)) ∨ (agg = false ∧ ∃ x, xs = [x] ∧ Rep fid Γ v x) := by
  unfold ofCells at ho
  split at ho
  · rename_i ha
    cases ho
    exact .inl ⟨by simpa using ha, Rep_mkAgg h⟩
  · rename_i ha
    split at ho
    · cases ho
      simp only [Reps] at h
      obtain ⟨x, ys, rfl, h1, rfl⟩ := h
      exact .inr ⟨by simpa using ha, x, rfl, h1⟩
    · cases ho
theorem cutCells_eq {α : Type} {cs r : List α} {o n : Nat} (h : cutCells cs o n = some r) : r = (cs.drop o).take n ∧ r.length = n ∧ (0 < n → o + n ≤ cs.length) := by
  unfold cutCells at h
  simp only at h
  split at h
  · rename_i hl
    cases h
    refine ⟨rfl, hl, fun hn => ?_⟩
    simp at hl
    omega
  · cases h
theorem RepDs_lit {F : Nat → Nat} {w : World} : ∀ {xs : List Value}, (∀ x ∈ xs, noAgg x = true) → RepDs F w (xs.map .lit) xs
  | [], _ => by simp [RepDs]
  | x :: xs, h => by
    simp only [List.map_cons, RepDs, RepD]
    exact ⟨x, xs, rfl, ⟨rfl, h x (by simp)⟩, RepDs_lit fun y hy => h y (List.mem_cons_of_mem _ hy)⟩
theorem RepDs_litCells {F : Nat → Nat} {w : World} {z : Value} (h : cellsOk z = true) : RepDs F w (litCells z) z.cells.toList := by
  unfold litCells
  refine RepDs_lit fun x hx => ?_
  simp only [cellsOk, List.all_eq_true, Bool.and_eq_true] at h
  exact (h x hx).1
theorem RepD_toD {F : Nat → Nat} {w : World} {z : Value} (h : cellsOk z = true) : RepD F w (toD z) z := by
  cases z with
  | agg cs =>
    simp only [toD, RepD]
    refine ⟨cs.toList, by simp, RepDs_lit fun x hx => ?_⟩
    simp only [cellsOk, Value.cells, List.all_eq_true, Bool.and_eq_true] at h
    exact (h x hx).1
  | _ => simp [toD, RepD, noAgg]
end Go.Pm
