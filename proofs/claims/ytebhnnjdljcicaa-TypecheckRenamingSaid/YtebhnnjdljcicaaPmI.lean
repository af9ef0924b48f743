/- Aggregates, rows, appends, maps. -/
import Derived.Test.YtebhnnjdljcicaaPmH
namespace Go.Pm
variable {P : Program} {ids : FuncId → Option Nat} {fid : Fid} {N : Nat}
section
variable {Γ : Ctx} {fr : Fr} {ρ : Operand → Value} {o : Oper} {v : V} {σ' : S} {C : Task → Option Res}

/-- The parts of a literal, beside the given ones. -/
inductive PartsRep (fid : Fid) (Γ : Ctx) (place : Nat → Option (Nat × Nat)) : List (Nat × Nat × V) → List (Nat × Value) → Prop
  | nil : PartsRep fid Γ place [] []
  | cons {i off n : Nat} {v : V} {x : Value} {ps : List (Nat × Nat × V)} {xs : List (Nat × Value)} (hp : place i = some (off, n)) (hv : Rep fid Γ v x) (h : PartsRep fid Γ place ps xs) :
      PartsRep fid Γ place ((off, n, v) :: ps) ((i, x) :: xs)
theorem parts_sound (hid : Ties ids fid) {a : Act} (hf : FrRep fid Γ N fr a.tmps) {place : Nat → Option (Nat × Nat)} : ∀ {xs : List (Nat × Operand)} {ys : List (Nat × Nat × X)} {ps : List (Nat × Nat × V)},
    cParts ids N place xs = some ys → evParts fr ys = some ps → PartsRep fid Γ place ps (xs.map fun (i, x) => (i, a.eval x))
  | [], ys, ps, hc, hv => by
    simp only [cParts, Option.some.injEq] at hc; subst hc
    simp only [evParts, Option.some.injEq] at hv; subst hv
    exact .nil
  | (i, x) :: xs, ys, ps, hc, hv => by
    simp only [cParts] at hc
    split at hc
    · rename_i off n y ys' h1 h2 h3
      cases hc
      simp only [evParts] at hv
      split at hv
      · rename_i u us h4 h5
        cases hv
        exact .cons h1 (ev_sound hid hf h2 h4) (parts_sound hid hf h3 h5)
      · cases hv
    · cases hc
/-- A run of cells laid into an array, one by one. -/
theorem foldl_set : ∀ (xs : List Value) (cs : Array Value) (off k : Nat), off + k + xs.length ≤ cs.size →
    ((xs.zipIdx k).foldl (fun cs (c, j) => cs.setIfInBounds (off + j) c) cs).toList = cs.toList.take (off + k) ++ (xs ++ cs.toList.drop (off + k + xs.length))
  | [], cs, off, k, _ => by simp
  | x :: xs, cs, off, k, h => by
    simp only [List.length_cons] at h
    simp only [List.zipIdx_cons, List.foldl_cons]
    rw [foldl_set xs _ off (k + 1) (by simp; omega)]
    have hlt : off + k < cs.toList.length := by rw [Array.length_toList]; omega
    rw [Array.toList_setIfInBounds, show off + (k + 1) = off + k + 1 from by omega]
    rw [List.take_succ_eq_append_getElem (by simpa using hlt), List.getElem_set_self, List.take_set_of_le (Nat.le_refl _), List.drop_set_of_lt (by omega)]
    simp
    omega
theorem fill_sound {place : Nat → Option (Nat × Nat)} {ps : List (Nat × Nat × V)} {xs : List (Nat × Value)} (h : PartsRep fid Γ place ps xs) : ∀ {cs : List V} {arr : Array Value} {r : List V},
    Reps fid Γ cs arr.toList → fillV cs ps = some r → ∃ arr', Instr.fill place arr xs = some arr' ∧ Reps fid Γ r arr'.toList := by
  induction h with
  | nil => intro cs arr r hc hr; simp only [fillV, Option.some.injEq] at hr; subst hr; exact ⟨arr, rfl, hc⟩
  | @cons i off n v x ps xs hp hv h ih =>
    intro cs arr r hc hr
    simp only [fillV] at hr
    split at hr
    · rename_i hcond
      obtain ⟨c1, c2, c3⟩ := hcond
      have hcells := Rep_cells hv
      have hl1 := Reps.length hcells
      have hl2 := Reps.length hc
      simp only [Array.length_toList] at hl1 hl2
      have hfold := foldl_set x.cells.toList arr off 0 (by simp; omega)
      have hfold' : (x.cells.zipIdx.foldl (fun cs (c, j) => cs.setIfInBounds (off + j) c) arr).toList = arr.toList.take off ++ (x.cells.toList ++ arr.toList.drop (off + n)) := by
        rw [← Array.foldl_toList, Array.toList_zipIdx, hfold]
        simp [hl1, c1]
      obtain ⟨arr', h1, h2⟩ := ih (cs := cs.take off ++ (v.cells ++ cs.drop (off + n))) (arr := x.cells.zipIdx.foldl (fun cs (c, j) => cs.setIfInBounds (off + j) c) arr)
        (by rw [hfold']; exact Reps_append.2 ⟨_, _, rfl, Reps_take hc off, Reps_append.2 ⟨_, _, rfl, hcells, Reps_drop hc _⟩⟩) hr
      refine ⟨arr', ?_, h2⟩
      simp only [Instr.fill, hp]
      rw [if_neg (by simp; omega)]
      exact h1
    · cases hr
theorem run_places (w : World) : ∀ {fs : List Field} {ps : List (Nat × Nat)}, placesT P fs = some ps → (fs.mapM fun f => do pure (f.offset, ← sizeOf f.type) : Sem (List (Nat × Nat))).run P w = .ok ps w
  | [], ps, h => by simp only [placesT, Option.some.injEq] at h; subst h; simp
  | f :: fs, ps, h => by
    simp only [placesT] at h
    split at h
    · rename_i n ps' h1 h2
      cases h
      simp only [List.mapM_cons, Sem.run_bind, run_sizeOf h1, Result.andThen_ok, Sem.run_pure]
      rw [run_places w h2]
      simp
    · cases h
theorem c_buildS (hr : Real fid Γ) {t : TypeId} {parts : Array (Nat × Operand)} {fields : Array Field} {z : Value} {pl : List (Nat × Nat)} {ps : List (Nat × Nat × V)} {cs : List V}
    (ho : o.op = .build t parts) (ht : P.underlying t = some (.struct fields)) (hz : zeroT P t = some z) (hpl : placesT P fields.toList = some pl)
    (hps : PartsRep fid Γ (fun i => pl[i]?) ps (parts.toList.map fun (i, x) => (i, ρ x))) (h : fillV ((litCells z).map .dat) ps = some cs) : Comes P fid Γ ρ o (mkAgg cs) Γ.σ := by
  obtain ⟨arr', h1, h2⟩ := fill_sound hps (Reps_dat.2 (RepDs_litCells (zeroT_ok hz))) h
  refine .pure hr (x := .agg arr') ?_ (by have := Rep_mkAgg h2; simpa using this)
  simp only [execOp, ho, Instr.build, Sem.run_bind, run_zeroValue hz, Result.andThen_ok, run_underlying ht, Array.mapM_eq_mapM_toList]
  have := run_places (P := P) Γ.w hpl
  simp only [Sem.run_map] at this ⊢
  rw [this]
  simp only [Result.andThen_ok, Array.toList_map, List.getElem?_toArray]
  have e : (parts.toList.map fun x => match x with | (i, x) => (i, ρ x)) = parts.toList.map fun (i, x) => (i, ρ x) := rfl
  rw [h1]
  simp
theorem c_buildA (hr : Real fid Γ) {t e : TypeId} {parts : Array (Nat × Operand)} {len n : Nat} {z : Value} {ps : List (Nat × Nat × V)} {cs : List V}
    (ho : o.op = .build t parts) (ht : P.underlying t = some (.array len e)) (hz : zeroT P t = some z) (hn : sizeT P e = some n)
    (hps : PartsRep fid Γ (fun i => some (i * n, n)) ps (parts.toList.map fun (i, x) => (i, ρ x))) (h : fillV ((litCells z).map .dat) ps = some cs) : Comes P fid Γ ρ o (mkAgg cs) Γ.σ := by
  obtain ⟨arr', h1, h2⟩ := fill_sound hps (Reps_dat.2 (RepDs_litCells (zeroT_ok hz))) h
  refine .pure hr (x := .agg arr') ?_ (by have := Rep_mkAgg h2; simpa using this)
  simp only [execOp, ho, Instr.build, Sem.run_bind, run_zeroValue hz, Result.andThen_ok, run_underlying ht, run_sizeOf hn, Array.toList_map]
  rw [h1]
  simp
theorem repl_length {α : Type} (l : List α) : ∀ n, (repl n l).length = n * l.length
  | 0 => by simp [repl]
  | n + 1 => by simp [repl, repl_length l n, Nat.add_mul]; omega
theorem repl_get {α : Type} (l : List α) : ∀ (n j : Nat), j < n * l.length → (repl n l)[j]? = l[j % l.length]?
  | 0, j, h => by simp at h
  | n + 1, j, h => by
    simp only [repl]
    by_cases hj : j < l.length
    · rw [List.getElem?_append_left hj, Nat.mod_eq_of_lt hj]
    · rw [List.getElem?_append_right (by omega), repl_get l n (j - l.length) (by rw [Nat.add_mul] at h; omega)]
      congr 1
      rw [← Nat.mod_eq_sub_mod (by omega)]
theorem repl_map {α β : Type} (f : α → β) (l : List α) : ∀ n, (repl n l).map f = repl n (l.map f)
  | 0 => rfl
  | n + 1 => by simp [repl, repl_map f l n]
theorem range_zero (zs : Array Value) (n : Nat) (hz : 0 < zs.size) : ((Array.range (n * zs.size)).map (zs[· % zs.size]!)).toList = repl n zs.toList := by
  apply List.ext_getElem?
  intro j
  by_cases hj : j < n * zs.size
  · rw [repl_get _ _ _ (by simpa using hj)]
    simp [hj, Array.getElem!_eq_getD, Array.getD, Nat.mod_lt j hz]
  · rw [List.getElem?_eq_none (by simp; omega), List.getElem?_eq_none (by rw [repl_length]; simp; omega)]
theorem RepDs_repl {F : Nat → Nat} {w : World} {ds : List D} {xs : List Value} (h : RepDs F w ds xs) : ∀ n, RepDs F w (repl n ds) (repl n xs)
  | 0 => by simp [repl, RepDs]
  | n + 1 => RepDs_append.2 ⟨_, _, rfl, h, RepDs_repl h n⟩
/-- Data that are laid into a new block. -/
theorem newRow_sound (hr : Real fid Γ) {ds : List D} {arr : Array Value} (e : TypeId) (hd : RepDs Γ.F Γ.w ds arr.toList) (h1' : ∀ v ∈ arr.toList, v.oneCell' = true) (n cap : Nat) (full : Bool) (hc : n ≤ cap) (hf : full = true → cap = n) :
    ∃ Γ' : Ctx, Γ'.σ = Γ.σ ∧ Real fid Γ' ∧ Step Γ Γ' ∧ Γ'.w = Γ.w.alloc (.cells arr e) ∧ Rep fid Γ' (.dat (.sl ds n full)) (.slice (some ⟨Γ.w.heap.size, 0, none⟩) n cap) := by
  obtain ⟨h1, h2⟩ := allocImm hr arr e arr.size (Nat.le_refl _)
  refine ⟨⟨Γ.σ, Γ.μ, grow Γ.F Γ.w.heap.size arr.size, Γ.w.alloc (.cells arr e)⟩, rfl, h1, h2, rfl, ?_⟩
  simp only [Rep, RepD]
  refine ⟨Γ.w.heap.size, 0, cap, arr.toList, rfl, hc, hf, RepDs.ext h2.ext _ _ hd, fun i v hi => ?_, fun _ => by simp [grow], h1'⟩
  simp only [World.cell?, heap_alloc_new]
  simpa using hi
theorem fillV_one : ∀ {ps : List (Nat × Nat × V)} {cs r : List V}, fillV cs ps = some r → cs.all V.one = true → r.all V.one = true
  | [], cs, r, h, hc => by simp only [fillV, Option.some.injEq] at h; subst h; exact hc
  | (off, n, v) :: ps, cs, r, h, hc => by
    simp only [fillV] at h
    split at h
    · rename_i hcond
      refine fillV_one h ?_
      rw [List.all_eq_true] at hc ⊢
      intro x hx
      rcases List.mem_append.1 hx with hx | hx
      · exact hc x (List.mem_of_mem_take hx)
      · rcases List.mem_append.1 hx with hx | hx
        · exact List.all_eq_true.1 hcond.2.2 x hx
        · exact hc x (List.mem_of_mem_drop hx)
    · cases h
theorem mem_repl {α : Type} {x : α} {l : List α} : ∀ {n : Nat}, x ∈ repl n l → x ∈ l
  | 0, h => by simp [repl] at h
  | n + 1, h => by
    simp only [repl] at h
    rcases List.mem_append.1 h with h | h
    · exact h
    · exact mem_repl h
theorem zero_one {z : Value} (h : cellsOk z = true) (n : Nat) : ((repl n (litCells z)).map V.dat).all V.one = true := by
  rw [List.all_eq_true]
  intro x hx
  obtain ⟨d, hd, rfl⟩ := List.mem_map.1 hx
  have := mem_repl hd
  unfold litCells at this
  obtain ⟨v, hv, rfl⟩ := List.mem_map.1 this
  simp only [cellsOk, List.all_eq_true, Bool.and_eq_true] at h
  exact (h v hv).2
theorem c_bslice (hr : Real fid Γ) {t e : TypeId} {parts : Array (Nat × Operand)} {len n : Nat} {z : Value} {ps : List (Nat × Nat × V)} {cs : List V} {ds : List D}
    (ho : o.op = .buildSlice t len parts) (ht : P.underlying t = some (.slice e)) (hz : zeroT P e = some z) (hn : sizeT P e = some n) (hlen : len * n ≤ 2 ^ 24) (hzn : z.cells.size = n) (h0 : 0 < n) (hl0 : 0 < len)
    (hps : PartsRep fid Γ (fun i => some (i * n, n)) ps (parts.toList.map fun (i, x) => (i, ρ x))) (h : fillV ((repl len (litCells z)).map .dat) ps = some cs) (hd : allDat cs = some ds) :
    Comes P fid Γ ρ o (.dat (.sl ds len true)) Γ.σ := by
  have hzero : Reps fid Γ ((repl len (litCells z)).map .dat) ((Array.range (len * n)).map (z.cells[· % z.cells.size]!)).toList := by
    subst hzn
    rw [range_zero _ _ h0]
    exact Reps_dat.2 (RepDs_repl (RepDs_litCells (zeroT_ok hz)) len)
  obtain ⟨arr', h1, h2⟩ := fill_sound hps hzero h
  have := allDat_eq hd
  subst this
  obtain ⟨Γ', k1, k2, k3, k4, k5⟩ := newRow_sound hr e (Reps_dat.1 h2) (Reps_one h2 (fillV_one h (zero_one (zeroT_ok hz) len))) len len true (Nat.le_refl _) (fun _ => rfl)
  refine ⟨Γ', _, k1, k2, k3, k5, .inl ?_⟩
  rw [k4]
  simp only [execOp, ho, Instr.buildSlice, Sem.run_bind, run_underlying ht, Result.andThen_ok, run_sizeOf hn, if_neg (show ¬ len * n > 2 ^ 24 by omega)]
  have hl : ¬ len * n = 0 := by have := Nat.mul_pos hl0 h0; omega
  · simp only [hl, if_false, Sem.run_bind, run_zeroValue hz, Result.andThen_ok, Sem.run_pure]
    rw [Array.toList_map, h1]
    simp [newRow]

/-! ## maps -/
theorem sameNow_of {kd : KD} {kt : TypeId} (hk : kdT P kt = some kd) {a b : Value} {r : Bool} (h : sameKey kd a b = some r) : ∃ d, P.underlying kt = some d ∧ Instr.sameNow d a b = some r := by
  unfold kdT at hk
  split at hk
  · rename_i hu; cases hk
    refine ⟨_, hu, ?_⟩
    cases a <;> cases b <;> simp_all [sameKey, Instr.sameNow]
  · rename_i hu; cases hk
    refine ⟨_, hu, ?_⟩
    cases a <;> cases b <;> simp_all [sameKey, Instr.sameNow]
  · rename_i hu; cases hk
    refine ⟨_, hu, ?_⟩
    cases a <;> cases b <;> simp_all [sameKey, Instr.sameNow]
  · cases hk
theorem run_checkKey {kd : KD} {kt : TypeId} (hk : kdT P kt = some kd) (e : Bool) (n : Nat) (key : Value) (w : World) : (Instr.checkKey e (n + 1) kt key).run P w = .ok () w := by
  unfold kdT at hk
  split at hk
  · rename_i hu; simp only [Instr.checkKey, Sem.run_bind, run_underlying hu, Result.andThen_ok]; rfl
  · rename_i hu; simp only [Instr.checkKey, Sem.run_bind, run_underlying hu, Result.andThen_ok]; rfl
  · rename_i hu; simp only [Instr.checkKey, Sem.run_bind, run_underlying hu, Result.andThen_ok]; rfl
  · cases hk
theorem kdT_some {kd : KD} {kt : TypeId} (hk : kdT P kt = some kd) : ∃ d, P.underlying kt = some d := by
  unfold kdT at hk
  split at hk
  · rename_i hu; exact ⟨_, hu⟩
  · rename_i hu; exact ⟨_, hu⟩
  · rename_i hu; exact ⟨_, hu⟩
  · cases hk
theorem find_sound {kd : KD} {kt : TypeId} {d : TypeDesc} (hk : kdT P kt = some kd) (hu : P.underlying kt = some d) {key : Value} : ∀ {es : List (Value × V)} {xs : List MapEntry} {r : Option V} (i : Nat), RepE fid Γ es xs → findE kd key es = some r →
    (r = none ∧ Instr.findNow d key xs i = some none) ∨ ∃ u j x, r = some u ∧ Instr.findNow d key xs i = some (some (i + j, x)) ∧ Rep fid Γ u x ∧ j < xs.length
  | [], xs, r, i, hx, h => by
    simp only [findE, Option.some.injEq] at h; subst h
    simp only [RepE] at hx; subst hx
    exact .inl ⟨rfl, rfl⟩
  | (k, v) :: es, xs, r, i, hx, h => by
    simp only [RepE] at hx
    obtain ⟨e, xs', rfl, h1, h2, h3⟩ := hx
    simp only [findE] at h
    split at h
    · rename_i hs
      cases h
      obtain ⟨d', hd, hs'⟩ := sameNow_of hk hs
      rw [hu] at hd; cases hd
      refine .inr ⟨v, 0, e.val, rfl, ?_, h2, by simp⟩
      simp only [Instr.findNow, h1, hs', Nat.add_zero]
    · rename_i hs
      obtain ⟨d', hd, hs'⟩ := sameNow_of hk hs
      rw [hu] at hd; cases hd
      rcases find_sound hk hu (i + 1) h3 h with ⟨rfl, h4⟩ | ⟨u, j, x, rfl, h4, h5, h6⟩
      · exact .inl ⟨rfl, by simp only [Instr.findNow, h1, hs', h4]⟩
      · exact .inr ⟨u, j + 1, x, rfl, by simp only [Instr.findNow, h1, hs', h4]; congr 3; omega, h5, by simp; omega⟩
    · cases h
theorem c_lookup (hr : Real fid Γ) {t kt e : TypeId} {kd : KD} {m k : Operand} {ok : Bool} {l : Nat} {key z : Value} {es : List (Value × V)} {r : Option V} (ho : o.op = .lookup t m k ok)
    (ht : P.underlying t = some (.map kt e)) (hk : kdT P kt = some kd) (hz : zeroT P e = some z) (hm : Rep fid Γ (.mp l) (ρ m)) (hkey : Rep fid Γ (.dat (.lit key)) (ρ k)) (hes : Γ.σ[l]? = some (.map es)) (h : findE kd key es = some r) :
    Comes P fid Γ ρ o (match r with | some u => if ok then .tup [u, .bool true] else u | none => if ok then .tup [.dat (toD z), .bool false] else .dat (toD z)) Γ.σ := by
  simp only [Rep] at hm
  obtain ⟨b, hb, hmx, _⟩ := hm
  obtain ⟨hF, ents, clock, h1, h2⟩ := hr.obs l _ b hes hb
  obtain ⟨d, hu⟩ := kdT_some hk
  have hrun : ∀ x, (Instr.findKey kt key ents.toList).run P Γ.w = .ok x Γ.w → (Instr.lookup t (.map (some b)) key ok).run P Γ.w = (match x with
      | some (_, v) => Result.ok (if ok then .tuple #[v, .bool true] else v) Γ.w
      | none => Result.ok (if ok then .tuple #[z, .bool false] else z) Γ.w) := fun x hx => by
    simp only [Instr.lookup, Sem.run_bind, run_underlying ht, Result.andThen_ok, getObj, Sem.run, h1, Sem.run_pure, run_checkKey hk, hx]
    cases x with
    | none => simp [run_zeroValue hz]
    | some p => simp
  have hfk : ∀ x, Instr.findNow d key ents.toList 0 = some x → (Instr.findKey kt key ents.toList).run P Γ.w = .ok x Γ.w := fun x hx => by
    simp only [Instr.findKey, Sem.run_bind, run_underlying hu, Result.andThen_ok, hx]
    rfl
  rcases find_sound hk hu 0 h2 h with ⟨rfl, h4⟩ | ⟨u, j, x, rfl, h4, h5, _⟩
  · refine .pure hr (x := if ok then .tuple #[z, .bool false] else z) ?_ ?_
    · simp only [execOp, ho, hmx, (Rep_lit hkey).1, Sem.run_bind, hrun _ (hfk _ h4), Result.andThen_ok, Sem.run_pure]
    · cases ok
      · simpa [Rep] using RepD_toD (zeroT_ok hz)
      · simp only [if_true, Rep]
        exact ⟨[z, .bool false], rfl, z, _, rfl, by simpa [Rep] using RepD_toD (zeroT_ok hz), _, _, rfl, mkLit rfl, rfl⟩
  · refine .pure hr (x := if ok then .tuple #[x, .bool true] else x) ?_ ?_
    · simp only [execOp, ho, hmx, (Rep_lit hkey).1, Sem.run_bind, hrun _ (hfk _ h4), Result.andThen_ok, Sem.run_pure]
    · cases ok
      · simpa using h5
      · simp only [if_true, Rep]
        exact ⟨[x, .bool true], rfl, x, _, rfl, h5, _, _, rfl, mkLit rfl, rfl⟩
theorem set_sound {kd : KD} {kt : TypeId} {d : TypeDesc} (hk : kdT P kt = some kd) (hu : P.underlying kt = some d) {key : Value} {u : V} {x : Value} (hx : Rep fid Γ u x) : ∀ {es es' : List (Value × V)} {xs : List MapEntry} (i clock : Nat), RepE fid Γ es xs → setE kd key u es = some es' →
    (Instr.findNow d key xs i = some none ∧ RepE fid Γ es' (xs ++ [⟨key, x, clock⟩])) ∨ ∃ j y old, Instr.findNow d key xs i = some (some (i + j, y)) ∧ xs[j]? = some old ∧ sameKey kd key old.key = some true ∧
      ∀ f : MapEntry → MapEntry, (∀ e, (f e).key = key ∧ (f e).val = x) → RepE fid Γ es' (xs.modify j f)
  | [], es', xs, i, clock, hxs, h => by
    simp only [setE, Option.some.injEq] at h; subst h
    simp only [RepE] at hxs; subst hxs
    exact .inl ⟨rfl, ⟨key, x, clock⟩, [], rfl, rfl, hx, rfl⟩
  | (k, v) :: es, es', xs, i, clock, hxs, h => by
    simp only [RepE] at hxs
    obtain ⟨e, xs', rfl, h1, h2, h3⟩ := hxs
    simp only [setE] at h
    split at h
    · rename_i hs
      cases h
      obtain ⟨d', hd, hs'⟩ := sameNow_of hk hs
      rw [hu] at hd; cases hd
      refine .inr ⟨0, e.val, e, ?_, by simp, by rw [h1]; exact hs, fun f hf => ?_⟩
      · simp only [Instr.findNow, h1, hs', Nat.add_zero]
      · rw [List.modify_zero_cons]
        simp only [RepE]
        exact ⟨f e, xs', rfl, (hf e).1, by rw [(hf e).2]; exact hx, h3⟩
    · rename_i hs
      obtain ⟨d', hd, hs'⟩ := sameNow_of hk hs
      rw [hu] at hd; cases hd
      split at h
      · rename_i r' hr'
        cases h
        rcases set_sound hk hu hx (i + 1) clock h3 hr' with ⟨h4, h5⟩ | ⟨j, y, old, h4, h5, h6, h7⟩
        · refine .inl ⟨by simp only [Instr.findNow, h1, hs', h4], ?_⟩
          simp only [List.cons_append, RepE]
          exact ⟨e, _, rfl, h1, h2, h5⟩
        · refine .inr ⟨j + 1, y, old, by simp only [Instr.findNow, h1, hs', h4]; congr 3; omega, by simpa using h5, h6, fun f hf => ?_⟩
          rw [List.modify_succ_cons]
          simp only [RepE]
          exact ⟨e, _, rfl, h1, h2, h7 f hf⟩
      · cases h
    · cases h
theorem bytes_beq (x y : ByteArray) : (x == y) = decide (x = y) := by
  have h : (x == y) = (x.data == y.data) := rfl
  rw [h, Bool.eq_iff_iff]
  simp only [beq_iff_eq, decide_eq_true_eq]
  exact ⟨fun h => by cases x; cases y; simp only at h; rw [h], fun h => by rw [h]⟩
theorem sameBits_of {kd : KD} {a b : Value} (h : sameKey kd a b = some true) (n : Nat) : Instr.sameBits n b a = true := by
  cases kd <;> cases a <;> cases b <;> simp_all [sameKey, Instr.sameBits]
  simp only [bytes_beq, decide_eq_true_eq] at h ⊢
  exact h.symm
theorem c_mapset (hr : Real fid Γ) {t kt e : TypeId} {kd : KD} {m k x : Operand} {l : Nat} {key : Value} {u : V} {es es' : List (Value × V)} (ho : o.op = .mapUpdate t m k x ∨ o.op = .insert t m k x)
    (ht : P.underlying t = some (.map kt e)) (hk : kdT P kt = some kd) (hm : Rep fid Γ (.mp l) (ρ m)) (hkey : Rep fid Γ (.dat (.lit key)) (ρ k)) (hx : Rep fid Γ u (ρ x)) (hes : Γ.σ[l]? = some (.map es)) (h : setE kd key u es = some es') :
    Comes P fid Γ ρ o (.dat (.lit undef)) (Γ.σ.set l (.map es')) := by
  simp only [Rep] at hm
  obtain ⟨b, hb, hmx, _⟩ := hm
  obtain ⟨hF, ents, clock, h1, h2⟩ := hr.obs l _ b hes hb
  obtain ⟨d, hu⟩ := kdT_some hk
  have hfk : ∀ x, Instr.findNow d key ents.toList 0 = some x → (Instr.findKey kt key ents.toList).run P Γ.w = .ok x Γ.w := fun x hx => by
    simp only [Instr.findKey, Sem.run_bind, run_underlying hu, Result.andThen_ok, hx]
    rfl
  have hblt := heap_lt h1
  have fin : ∀ ents' clock', (Instr.mapUpdate t (.map (some b)) key (ρ x)).run P Γ.w = .ok () { Γ.w with heap := Γ.w.heap.setIfInBounds b (.map ents' clock') } → RepE fid Γ es' ents'.toList →
      Comes P fid Γ ρ o (.dat (.lit undef)) (Γ.σ.set l (.map es')) := fun ents' clock' hrun hrep => by
    obtain ⟨u1, u2⟩ := upd hr hes rfl (ob' := .map es') rfl hb (w' := { Γ.w with heap := Γ.w.heap.setIfInBounds b (.map ents' clock') })
      ⟨rfl, rfl, rfl, by simp, fun k hk => by simp [Array.getElem?_setIfInBounds_ne (Ne.symm hk)]⟩ (fun hx => by
        simp only [RepOb]
        exact ⟨hF, ents', clock', by simp [hblt], RepE.ext hx _ _ hrep⟩)
    refine ⟨_, undef, rfl, u1, u2, mkLit rfl, .inr ⟨?_, rfl⟩⟩
    rcases ho with ho | ho <;> simp only [execOp, ho, hmx, (Rep_lit hkey).1, Sem.run_bind, hrun, Result.andThen_ok, Sem.run_pure]
  rcases set_sound hk hu hx 0 clock h2 h with ⟨h4, h5⟩ | ⟨j, y, old, h4, h5, h6, h7⟩
  · refine fin (ents.push ⟨key, ρ x, clock⟩) (clock + 1) ?_ (by simpa using h5)
    simp only [Instr.mapUpdate, Sem.run_bind, run_underlying ht, Result.andThen_ok, getObj, Sem.run, h1, run_checkKey hk, hfk _ h4, setObj]
  · refine fin (ents.modify j fun e => { e with key, val := ρ x }) clock ?_ (by
      have := h7 (fun e => { e with key, val := ρ x }) (fun e => ⟨rfl, rfl⟩)
      rw [Array.toList_modify]; exact this)
    have hold : ents[j]? = some old := by simpa using h5
    simp only [Instr.mapUpdate, Sem.run_bind, run_underlying ht, Result.andThen_ok, getObj, Sem.run, h1, run_checkKey hk, hfk _ h4, setObj, Nat.zero_add, hold, Option.map_some, Option.getD_some, Instr.keyThatStays, sameBits_of h6, if_true, Sem.run_pure]
end
end Go.Pm
