/- Aggregates, rows, appends, maps. Append. Rows of the program's own: grown, cut, handed on, handed back. Rows and objects whose type is known; strings of rows; functions without a body. -/
import Derived.Test.YtjdbkncfebebnaaDoorPmH
import Derived.IntWalk
import Derived.Laws.BytesString
import Derived.Lib.UnsafeStr
set_option linter.unusedSimpArgs false
set_option linter.unusedVariables false
section SI
namespace Go.Pm
variable {P : Program} {ids : Ids} {fid : Fid} {N : Nat}
section
variable {Γ : Ctx} {fr : Fr} {ρ : Operand -> Value} {o : Oper} {v : V} {σ' : S} {C : Task -> Option Res}

inductive PartsRep (fid : Fid) (Γ : Ctx) (place : Nat -> Option (Nat × Nat)) : List (Nat × Nat × V) -> List (Nat × Value) -> Prop
 | nil : PartsRep fid Γ place [] []
 | cons {i off n : Nat} {v : V} {x : Value} {ps : List (Nat × Nat × V)} {xs : List (Nat × Value)} (hp : place i = some (off, n)) (hv : Rep fid Γ v x) (h : PartsRep fid Γ place ps xs) :
     PartsRep fid Γ place ((off, n, v) :: ps) ((i, x) :: xs)
theorem parts_sound (hid : Ties P ids fid) (hr : Real fid Γ) {a : Act} (hf : FrRep fid Γ N fr a.tmps) {place : Nat -> Option (Nat × Nat)} : ∀ {xs : List (Nat × Operand)} {ys : List (Nat × Nat × X)} {ps : List (Nat × Nat × V)},
   cParts ids N place xs = some ys -> evParts fr ys = some ps -> PartsRep fid Γ place ps (xs.map fun (i, x) => (i, a.eval x))
 | [], ys, ps, hc, hv => by
   simp only [cParts, Option.some.injEq] at hc; subst hc
   simp only [evParts, Option.some.injEq] at hv; subst hv
   exact .nil
 | (i, x) :: xs, ys, ps, hc, hv => by
   simp only [cParts] at hc
   split at hc
   · rename_i off n y ys' h1 h2 h3
     cases hc
     simp only [evParts] at hv
     split at hv
     · rename_i u us h4 h5
       cases hv
       exact .cons h1 (ev_sound hid hr hf h2 h4) (parts_sound hid hr hf h3 h5)
     · cases hv
   · cases hc
theorem foldl_set : ∀ (xs : List Value) (cs : Array Value) (off k : Nat), off + k + xs.length <= cs.size ->
   ((xs.zipIdx k).foldl (fun cs (c, j) => cs.setIfInBounds (off + j) c) cs).toList = cs.toList.take (off + k) ++ (xs ++ cs.toList.drop (off + k + xs.length))
 | [], cs, off, k, _ => by simp
 | x :: xs, cs, off, k, h => by
   simp only [List.length_cons] at h
   simp only [List.zipIdx_cons, List.foldl_cons]
   rw [foldl_set xs _ off (k + 1) (by simp; omega)]
   have hlt : off + k < cs.toList.length := by rw [Array.length_toList]; omega
   rw [Array.toList_setIfInBounds, show off + (k + 1) = off + k + 1 from by omega]
   rw [List.take_succ_eq_append_getElem (by simpa using hlt), List.getElem_set_self, List.take_set_of_le (Nat.le_refl _), List.drop_set_of_lt (by omega)]
   simp
   omega
theorem fill_sound {place : Nat -> Option (Nat × Nat)} {ps : List (Nat × Nat × V)} {xs : List (Nat × Value)} (h : PartsRep fid Γ place ps xs) : ∀ {cs : List V} {arr : Array Value} {r : List V},
   Reps fid Γ cs arr.toList -> fillV cs ps = some r -> ∃ arr', Instr.fill place arr xs = some arr' /\ Reps fid Γ r arr'.toList := by
 induction h with
 | nil => intro cs arr r hc hr; simp only [fillV, Option.some.injEq] at hr; subst hr; exact ⟨arr, rfl, hc⟩
 | @cons i off n v x ps xs hp hv h ih =>
   intro cs arr r hc hr
   simp only [fillV] at hr
   split at hr
   · rename_i hcond
     obtain ⟨c1, c2, c3⟩ := hcond
     have hcells := Rep_cells hv
     have hl1 := Reps.length hcells
     have hl2 := Reps.length hc
     simp only [Array.length_toList] at hl1 hl2
     have hfold := foldl_set x.cells.toList arr off 0 (by simp; omega)
     have hfold' : (x.cells.zipIdx.foldl (fun cs (c, j) => cs.setIfInBounds (off + j) c) arr).toList = arr.toList.take off ++ (x.cells.toList ++ arr.toList.drop (off + n)) := by
       rw [<- Array.foldl_toList, Array.toList_zipIdx, hfold]
       simp [hl1, c1]
     obtain ⟨arr', h1, h2⟩ := ih (cs := cs.take off ++ (v.cells ++ cs.drop (off + n))) (arr := x.cells.zipIdx.foldl (fun cs (c, j) => cs.setIfInBounds (off + j) c) arr)
       (by rw [hfold']; exact Reps_append.2 ⟨_, _, rfl, Reps_take hc off, Reps_append.2 ⟨_, _, rfl, hcells, Reps_drop hc _⟩⟩) hr
     refine ⟨arr', ?_, h2⟩
     simp only [Instr.fill, hp]
     rw [if_neg (by simp; omega)]
     exact h1
   · cases hr
theorem run_places (w : World) : ∀ {fs : List Field} {ps : List (Nat × Nat)}, placesT P fs = some ps -> (fs.mapM fun f => do pure (f.offset, <- sizeOf f.type) : Sem (List (Nat × Nat))).run P w = .ok ps w
 | [], ps, h => by simp only [placesT, Option.some.injEq] at h; subst h; simp
 | f :: fs, ps, h => by
   simp only [placesT] at h
   split at h
   · rename_i n ps' h1 h2
     cases h
     simp only [List.mapM_cons, Sem.run_bind, run_sizeOf h1, Result.andThen_ok, Sem.run_pure]
     rw [run_places w h2]
     simp
   · cases h
theorem c_buildS (hr : Real fid Γ) {t : TypeId} {parts : Array (Nat × Operand)} {fields : Array Field} {z : Value} {pl : List (Nat × Nat)} {ps : List (Nat × Nat × V)} {cs : List V}
   (ho : o.op = .build t parts) (ht : P.underlying t = some (.struct fields)) (hz : zeroT P t = some z) (hpl : placesT P fields.toList = some pl)
   (hps : PartsRep fid Γ (fun i => pl[i]?) ps (parts.toList.map fun (i, x) => (i, ρ x))) (h : fillV ((litCells z).map .dat) ps = some cs) : Comes P fid Γ ρ o (mkAgg cs) Γ.σ := by
 obtain ⟨arr', h1, h2⟩ := fill_sound hps (Reps_dat.2 (RepDs_litCells (zeroT_ok hz))) h
 refine .pure hr (x := .agg arr') ?_ (by have := Rep_mkAgg h2; simpa using this)
 simp only [execOp, ho, Instr.build, Sem.run_bind, run_zeroValue hz, Result.andThen_ok, run_underlying ht, Array.mapM_eq_mapM_toList]
 have := run_places (P := P) Γ.w hpl
 simp only [Sem.run_map] at this ⊢
 rw [this]
 simp only [Result.andThen_ok, Array.toList_map, List.getElem?_toArray]
 have e : (parts.toList.map fun x => match x with | (i, x) => (i, ρ x)) = parts.toList.map fun (i, x) => (i, ρ x) := rfl
 rw [h1]
 simp
theorem c_buildA (hr : Real fid Γ) {t e : TypeId} {parts : Array (Nat × Operand)} {len n : Nat} {z : Value} {ps : List (Nat × Nat × V)} {cs : List V}
   (ho : o.op = .build t parts) (ht : P.underlying t = some (.array len e)) (hz : zeroT P t = some z) (hn : sizeT P e = some n)
   (hps : PartsRep fid Γ (fun i => some (i * n, n)) ps (parts.toList.map fun (i, x) => (i, ρ x))) (h : fillV ((litCells z).map .dat) ps = some cs) : Comes P fid Γ ρ o (mkAgg cs) Γ.σ := by
 obtain ⟨arr', h1, h2⟩ := fill_sound hps (Reps_dat.2 (RepDs_litCells (zeroT_ok hz))) h
 refine .pure hr (x := .agg arr') ?_ (by have := Rep_mkAgg h2; simpa using this)
 simp only [execOp, ho, Instr.build, Sem.run_bind, run_zeroValue hz, Result.andThen_ok, run_underlying ht, run_sizeOf hn, Array.toList_map]
 rw [h1]
 simp
theorem repl_length {α : Type} (l : List α) : ∀ n, (repl n l).length = n * l.length
 | 0 => by simp [repl]
 | n + 1 => by simp [repl, repl_length l n, Nat.add_mul]; omega
theorem repl_get {α : Type} (l : List α) : ∀ (n j : Nat), j < n * l.length -> (repl n l)[j]? = l[j % l.length]?
 | 0, j, h => by simp at h
 | n + 1, j, h => by
   simp only [repl]
   by_cases hj : j < l.length
   · rw [List.getElem?_append_left hj, Nat.mod_eq_of_lt hj]
   · rw [List.getElem?_append_right (by omega), repl_get l n (j - l.length) (by rw [Nat.add_mul] at h; omega)]
     congr 1
     rw [<- Nat.mod_eq_sub_mod (by omega)]
theorem range_zero (zs : Array Value) (n : Nat) (hz : 0 < zs.size) : ((Array.range (n * zs.size)).map (zs[· % zs.size]!)).toList = repl n zs.toList := by
 apply List.ext_getElem?
 intro j
 by_cases hj : j < n * zs.size
 · rw [repl_get _ _ _ (by simpa using hj)]
   simp [hj, Array.getElem!_eq_getD, Array.getD, Nat.mod_lt j hz]
 · rw [List.getElem?_eq_none (by simp; omega), List.getElem?_eq_none (by rw [repl_length]; simp; omega)]
theorem RepDs_repl {F : Nat -> Nat} {w : World} {ds : List D} {xs : List Value} (h : RepDs F w ds xs) : ∀ n, RepDs F w (repl n ds) (repl n xs)
 | 0 => by simp [repl, RepDs]
 | n + 1 => RepDs_append.2 ⟨_, _, rfl, h, RepDs_repl h n⟩
theorem newRow_sound (hr : Real fid Γ) {ds : List D} {arr : Array Value} (e : TypeId) (hd : RepDs Γ.F Γ.w ds arr.toList) (h1' : ∀ v ∈ arr.toList, v.oneCell' = true) (n cap : Nat) (full : Bool) (hc : n <= cap) (hf : full = true -> cap = n) :
   ∃ Γ' : Ctx, Γ'.σ = Γ.σ /\ Real fid Γ' /\ Step Γ Γ' /\ Γ'.w = Γ.w.alloc (.cells arr e) /\ Rep fid Γ' (.dat (.sl ds n full)) (.slice (some ⟨Γ.w.heap.size, 0, none⟩) n cap) := by
 obtain ⟨h1, h2⟩ := allocImm hr arr e arr.size (Nat.le_refl _)
 refine ⟨⟨Γ.σ, Γ.μ, grow Γ.F Γ.w.heap.size arr.size, Γ.w.alloc (.cells arr e)⟩, rfl, h1, h2, rfl, ?_⟩
 simp only [Rep, RepD]
 refine ⟨Γ.w.heap.size, 0, cap, arr.toList, rfl, hc, hf, RepDs.ext h2.ext _ _ hd, fun i v hi => ?_, fun _ => by simp [grow], h1'⟩
 simp only [World.cell?, heap_alloc_new]
 simpa using hi
theorem fillV_one : ∀ {ps : List (Nat × Nat × V)} {cs r : List V}, fillV cs ps = some r -> cs.all V.one = true -> r.all V.one = true
 | [], cs, r, h, hc => by simp only [fillV, Option.some.injEq] at h; subst h; exact hc
 | (off, n, v) :: ps, cs, r, h, hc => by
   simp only [fillV] at h
   split at h
   · rename_i hcond
     refine fillV_one h ?_
     rw [List.all_eq_true] at hc ⊢
     intro x hx
     rcases List.mem_append.1 hx with hx | hx
     · exact hc x (List.mem_of_mem_take hx)
     · rcases List.mem_append.1 hx with hx | hx
       · exact List.all_eq_true.1 hcond.2.2 x hx
       · exact hc x (List.mem_of_mem_drop hx)
   · cases h
theorem mem_repl {α : Type} {x : α} {l : List α} : ∀ {n : Nat}, x ∈ repl n l -> x ∈ l
 | 0, h => by simp [repl] at h
 | n + 1, h => by
   simp only [repl] at h
   rcases List.mem_append.1 h with h | h
   · exact h
   · exact mem_repl h
theorem zero_one {z : Value} (h : cellsOk z = true) (n : Nat) : ((repl n (litCells z)).map V.dat).all V.one = true := by
 rw [List.all_eq_true]
 intro x hx
 obtain ⟨d, hd, rfl⟩ := List.mem_map.1 hx
 have := mem_repl hd
 unfold litCells at this
 obtain ⟨v, hv, rfl⟩ := List.mem_map.1 this
 simp only [cellsOk, List.all_eq_true, Bool.and_eq_true] at h
 exact (h v hv).2
theorem c_bslice (hr : Real fid Γ) {t e : TypeId} {parts : Array (Nat × Operand)} {len n : Nat} {z : Value} {ps : List (Nat × Nat × V)} {cs : List V} {ds : List D}
   (ho : o.op = .buildSlice t len parts) (ht : P.underlying t = some (.slice e)) (hz : zeroT P e = some z) (hn : sizeT P e = some n) (hlen : len * n <= 2 ^ 24) (hzn : z.cells.size = n) (h0 : 0 < n)
   (hps : PartsRep fid Γ (fun i => some (i * n, n)) ps (parts.toList.map fun (i, x) => (i, ρ x))) (h : fillV ((repl len (litCells z)).map .dat) ps = some cs) (hd : allDat cs = some ds) :
   Comes P fid Γ ρ o (.dat (.sl ds len true)) Γ.σ := by
 have hzero : Reps fid Γ ((repl len (litCells z)).map .dat) ((Array.range (len * n)).map (z.cells[· % z.cells.size]!)).toList := by
   subst hzn
   rw [range_zero _ _ h0]
   exact Reps_dat.2 (RepDs_repl (RepDs_litCells (zeroT_ok hz)) len)
 obtain ⟨arr', h1, h2⟩ := fill_sound hps hzero h
 have := allDat_eq hd
 subst this
 obtain ⟨Γ', k1, k2, k3, k4, k5⟩ := newRow_sound hr e (Reps_dat.1 h2) (Reps_one h2 (fillV_one h (zero_one (zeroT_ok hz) len))) len len true (Nat.le_refl _) (fun _ => rfl)
 refine ⟨Γ', _, k1, k2, k3, k5, .inl ?_⟩
 rw [k4]
 simp only [execOp, ho, Instr.buildSlice, Sem.run_bind, run_underlying ht, Result.andThen_ok, run_sizeOf hn, if_neg (show ¬ len * n > 2 ^ 24 by omega)]
 by_cases hl : len * n = 0
 · simp only [hl, if_true, Sem.run_bind, Result.andThen_ok, Sem.run_pure]
   have e0 : ∀ f : Nat -> Value, Array.map f (Array.range 0) = #[] := fun f => by simp
   rw [hl, e0] at h1
   rw [Array.toList_map, e0, h1]
   simp [newRow]
 · simp only [hl, if_false, Sem.run_bind, run_zeroValue hz, Result.andThen_ok, Sem.run_pure]
   rw [Array.toList_map, h1]
   simp [newRow]

theorem fillV_length : ∀ {ps : List (Nat × Nat × V)} {cs r : List V}, fillV cs ps = some r -> r.length = cs.length
 | [], cs, r, h => by simp only [fillV, Option.some.injEq] at h; subst h; rfl
 | (off, n, v) :: ps, cs, r, h => by
   simp only [fillV] at h
   split at h
   · rename_i hcond
     rw [fillV_length h]
     simp only [List.length_append, List.length_take, List.length_drop, hcond.1]
     have := hcond.2.1
     omega
   · cases h
theorem c_bsliceO (hr : Real fid Γ) {t e : TypeId} {parts : Array (Nat × Operand)} {len n : Nat} {z : Value} {ps : List (Nat × Nat × V)} {cs : List V} {ds : List D}
   (ho : o.op = .buildSlice t len parts) (ht : P.underlying t = some (.slice e)) (hz : zeroT P e = some z) (hn : sizeT P e = some n) (hlen : len * n <= 2 ^ 24) (hzn : z.cells.size = n) (h0 : 0 < n)
   (hps : PartsRep fid Γ (fun i => some (i * n, n)) ps (parts.toList.map fun (i, x) => (i, ρ x))) (h : fillV ((repl len (litCells z)).map .dat) ps = some cs) (hd : allDat cs = some ds) :
   Comes P fid Γ ρ o (.own Γ.σ.length len n) (Γ.σ ++ [.vec cs]) := by
 have hzero : Reps fid Γ ((repl len (litCells z)).map .dat) ((Array.range (len * n)).map (z.cells[· % z.cells.size]!)).toList := by
   subst hzn
   rw [range_zero _ _ h0]
   exact Reps_dat.2 (RepDs_repl (RepDs_litCells (zeroT_ok hz)) len)
 obtain ⟨arr', h1, h2⟩ := fill_sound hps hzero h
 have hone := Reps_one h2 (fillV_one h (zero_one (zeroT_ok hz) len))
 have hlen2 : arr'.toList.length = cs.length := Reps.length h2
 have hcl : cs.length = len * n := by
   rw [fillV_length h, List.length_map, repl_length]
   unfold litCells
   rw [List.length_map, Array.length_toList, hzn]
 have hsz : arr'.size = cs.length := by rw [<- hlen2, Array.length_toList]
 obtain ⟨k1, k2⟩ := allocOb hr (.vec cs) (.cells arr' e) 0
   (fun Γ' e' hx' => by
     subst e'
     simp only [RepOb, grow, if_pos]
     have htk : arr'.toList.take cs.length = arr'.toList := List.take_of_length_le (by omega)
     refine ⟨trivial, _, e, heap_alloc_new _ _, by rw [hsz]; exact Nat.le_refl _, ?_, ?_⟩
     · rw [htk]; exact Reps.ext hx' _ _ h2
     · rw [htk]; exact hone) (fun h => absurd h (Nat.lt_irrefl _))
 have hrun : (execOp ρ o).run P Γ.w = .ok (.value (.slice (some ⟨Γ.w.heap.size, 0, none⟩) len len)) (Γ.w.alloc (.cells arr' e)) := by
   simp only [execOp, ho, Instr.buildSlice, Sem.run_bind, run_underlying ht, Result.andThen_ok, run_sizeOf hn, if_neg (show ¬ len * n > 2 ^ 24 by omega)]
   by_cases hl : len * n = 0
   · simp only [hl, if_true, Sem.run_bind, Result.andThen_ok, Sem.run_pure]
     have e0 : ∀ f : Nat -> Value, Array.map f (Array.range 0) = #[] := fun f => by simp
     rw [hl, e0] at h1
     rw [Array.toList_map, e0, h1]
     simp [newRow]
   · simp only [hl, if_false, Sem.run_bind, run_zeroValue hz, Result.andThen_ok, Sem.run_pure]
     rw [Array.toList_map, h1]
     simp [newRow]
 refine ⟨_, .slice (some ⟨Γ.w.heap.size, 0, none⟩) len len, rfl, k1, k2, ?_, .inl hrun⟩
 simp only [Rep]
 refine ⟨_, _, rfl, Nat.le_refl _, h0, ⟨.vec cs, by simp, rfl⟩, fun ob cs' q1 q2 => ?_⟩
 have : ob = .vec cs := by simpa using q1.symm
 subst this
 simp only [Ob.rows, Option.some.injEq] at q2; subst q2
 refine ⟨by rw [hcl]; exact Nat.le_refl _, fun _ => ⟨Γ.w.heap.size, _, e, by simp [bind], rfl, heap_alloc_new _ _, ?_⟩⟩
 rw [hsz, hcl]; exact Nat.le_refl _
theorem c_mkslice (hr : Real fid Γ) {t e : TypeId} {x y : Operand} {k k' : IntKind} {l c : Int} {n b : Nat} {z : Value} (ho : o.op = .makeSlice t x y) (ht : P.underlying t = some (.slice e)) (hz : zeroT P e = some z) (hn : sizeT P e = some n) (hb : bytesT P e = some b)
   (hzn : z.cells.size = n) (h0 : 0 < n) (hx : Rep fid Γ (.dat (.lit (.int k l))) (ρ x)) (hy : Rep fid Γ (.dat (.lit (.int k' c))) (ρ y)) (hc : 0 <= l /\ l <= c /\ c <= 2 ^ 40 /\ b * c <= 2 ^ 48) :
   Comes P fid Γ ρ o (.msl Γ.σ.length 0 l.toNat c.toNat (litCells z).length) (Γ.σ ++ [.cells ((repl c.toNat (litCells z)).map .dat)]) /\
   Comes P fid Γ ρ o (.own Γ.σ.length l.toNat (litCells z).length) (Γ.σ ++ [.vec ((repl l.toNat (litCells z)).map .dat)]) := by
 have hzl : (litCells z).length = n := by simp [litCells, hzn]
 have hzero : Reps fid Γ ((repl c.toNat (litCells z)).map .dat) ((Array.range (c.toNat * n)).map (z.cells[· % z.cells.size]!)).toList := by
   subst hzn
   rw [range_zero _ _ h0]
   exact Reps_dat.2 (RepDs_repl (RepDs_litCells (zeroT_ok hz)) c.toNat)
 obtain ⟨i, hi, hib⟩ : ∃ i, P.info? e = some i /\ i.bytes = b := by
   unfold bytesT at hb
   cases hi : P.info? e with
   | none => rw [hi] at hb; cases hb
   | some i => rw [hi] at hb; simp at hb; exact ⟨i, rfl, hb⟩
 obtain ⟨h1, h2⟩ := allocOb hr (.cells ((repl c.toNat (litCells z)).map .dat)) (.cells ((Array.range (c.toNat * n)).map (z.cells[· % z.cells.size]!)) e) 0
   (fun Γ' e' hx' => by
     subst e'
     simp only [RepOb, grow, if_pos]
     refine ⟨trivial, _, e, heap_alloc_new _ _, ?_⟩
     rw [Reps_dat] at hzero ⊢
     subst hzn
     rw [range_zero _ _ h0]
     exact RepDs_repl (RepDs_litCells (zeroT_ok hz)) c.toNat) (fun h => absurd h (Nat.lt_irrefl _))
 have hrun : (execOp ρ o).run P Γ.w = .ok (.value (.slice (some ⟨Γ.w.heap.size, 0, none⟩) l.toNat c.toNat)) (Γ.w.alloc (.cells ((Array.range (c.toNat * n)).map (z.cells[· % z.cells.size]!)) e)) := by
   have w1 : IntKind.i64.wrap l = l := by rw [IntKind.wrap_i64]; omega
   have w2 : IntKind.i64.wrap c = c := by rw [IntKind.wrap_i64]; omega
   simp only [execOp, ho, (Rep_lit hx).1, (Rep_lit hy).1, Instr.makeSlice, Sem.run_bind, run_underlying ht, Result.andThen_ok, asInt, Sem.run_pure, run_typeInfo hi, w1, w2, hib]
   have c1 : ¬ (c < 0) := by omega
   have c2 : ¬ ((b : Int) * c > 2 ^ 48) := by omega
   have c3 : ¬ (l < 0) := by omega
   have c4 : ¬ (l > c) := by omega
   simp only [asIntOf, Sem.run_pure, Result.andThen_ok, w1, w2, c1, c2, c3, c4, decide_false, Bool.or_false, Bool.false_or, Bool.false_eq_true, if_false, or_false, Sem.run_bind, run_askRoom, Result.andThen_ok, run_sizeOf hn]
   by_cases hl : c.toNat * n = 0
   · simp only [hl, if_true, Sem.run_bind, Result.andThen_ok, Sem.run_pure]
     have e0 : ∀ f : Nat -> Value, Array.map f (Array.range 0) = #[] := fun f => by simp
     rw [e0, e0]
     simp [newRow]
   · simp only [hl, if_false, Sem.run_bind, run_zeroValue hz, Result.andThen_ok, Sem.run_pure]
     simp [newRow]
 refine ⟨⟨_, _, rfl, h1, h2, ?_, .inl hrun⟩, ?_⟩
 · simp only [Rep]
   exact ⟨Γ.w.heap.size, by simp [bind], rfl, by omega, ⟨.cells ((repl c.toNat (litCells z)).map .dat), by simp, rfl⟩⟩
 · have hle : l.toNat * n <= c.toNat * n := Nat.mul_le_mul_right _ (by omega)
   have hrl : ((repl l.toNat (litCells z)).map V.dat).length = l.toNat * n := by rw [List.length_map, repl_length, hzl]
   have hsz : ((Array.range (c.toNat * n)).map (z.cells[· % z.cells.size]!)).size = c.toNat * n := by simp
   have hl' : ((Array.range (c.toNat * n)).map (z.cells[· % z.cells.size]!)).toList = repl c.toNat z.cells.toList := by subst hzn; rw [range_zero _ _ h0]
   have htake : (repl c.toNat z.cells.toList).take (l.toNat * n) = repl l.toNat z.cells.toList := by
     have hz' : z.cells.toList.length = n := by simpa using hzn
     apply List.ext_getElem?
     intro j
     by_cases hj : j < l.toNat * n
     · rw [List.getElem?_take_of_lt hj, repl_get _ _ _ (by rw [hz']; omega), repl_get _ _ _ (by rw [hz']; omega)]
     · rw [List.getElem?_take, if_neg hj, List.getElem?_eq_none (by rw [repl_length, hz']; omega)]
   obtain ⟨h1, h2⟩ := allocOb hr (.vec ((repl l.toNat (litCells z)).map .dat)) (.cells ((Array.range (c.toNat * n)).map (z.cells[· % z.cells.size]!)) e) 0
     (fun Γ' e' hx' => by
       subst e'
       simp only [RepOb, grow, if_pos]
       refine ⟨trivial, _, e, heap_alloc_new _ _, by rw [hrl, hsz]; exact hle, ?_, ?_⟩
       · rw [hrl, hl', htake]
         exact Reps_dat.2 (RepDs_repl (RepDs_litCells (zeroT_ok hz)) l.toNat)
       · rw [hrl, hl', htake]
         intro v hv
         have := mem_repl hv
         have hok := zeroT_ok hz
         simp only [cellsOk, List.all_eq_true, Bool.and_eq_true] at hok
         exact (hok v this).2) (fun h => absurd h (Nat.lt_irrefl _))
   refine ⟨_, .slice (some ⟨Γ.w.heap.size, 0, none⟩) l.toNat c.toNat, rfl, h1, h2, ?_, .inl hrun⟩
   simp only [Rep]
   refine ⟨_, _, rfl, by omega, by rw [hzl]; exact h0, ⟨.vec ((repl l.toNat (litCells z)).map .dat), by simp, rfl⟩, fun ob cs k1 k2 => ?_⟩
   have : ob = .vec ((repl l.toNat (litCells z)).map .dat) := by simpa using k1.symm
   subst this
   simp only [Ob.rows, Option.some.injEq] at k2; subst k2
   refine ⟨by rw [hrl, hzl]; exact Nat.le_refl _, fun _ => ⟨Γ.w.heap.size, _, e, by simp [bind], rfl, heap_alloc_new _ _, ?_⟩⟩
   rw [hzl, hsz]; exact Nat.le_refl _
/-! ## maps -/
theorem sameNow_of {kd : KD} {kt : TypeId} (hk : kdT P kt = some kd) {a b : Value} {r : Bool} (h : sameKey kd a b = some r) : ∃ d, P.underlying kt = some d /\ Instr.sameNow d a b = some r := by
 unfold kdT at hk
 split at hk
 · rename_i hu; cases hk
   refine ⟨_, hu, ?_⟩
   cases a <;> cases b <;> simp_all [sameKey, Instr.sameNow]
 · rename_i hu; cases hk
   refine ⟨_, hu, ?_⟩
   cases a <;> cases b <;> simp_all [sameKey, Instr.sameNow]
 · rename_i hu; cases hk
   refine ⟨_, hu, ?_⟩
   cases a <;> cases b <;> simp_all [sameKey, Instr.sameNow]
 · cases hk
theorem run_checkKey {kd : KD} {kt : TypeId} (hk : kdT P kt = some kd) (e : Bool) (n : Nat) (key : Value) (w : World) : (Instr.checkKey e (n + 1) kt key).run P w = .ok () w := by
 unfold kdT at hk
 split at hk
 · rename_i hu; simp only [Instr.checkKey, Sem.run_bind, run_underlying hu, Result.andThen_ok]; rfl
 · rename_i hu; simp only [Instr.checkKey, Sem.run_bind, run_underlying hu, Result.andThen_ok]; rfl
 · rename_i hu; simp only [Instr.checkKey, Sem.run_bind, run_underlying hu, Result.andThen_ok]; rfl
 · cases hk
theorem kdT_some {kd : KD} {kt : TypeId} (hk : kdT P kt = some kd) : ∃ d, P.underlying kt = some d := by
 unfold kdT at hk
 split at hk
 · rename_i hu; exact ⟨_, hu⟩
 · rename_i hu; exact ⟨_, hu⟩
 · rename_i hu; exact ⟨_, hu⟩
 · cases hk
theorem find_sound {kd : KD} {kt : TypeId} {d : TypeDesc} (hk : kdT P kt = some kd) (hu : P.underlying kt = some d) {key : Value} : ∀ {es : List (Value × V)} {xs : List MapEntry} {r : Option V} (i : Nat), RepE fid Γ es xs -> findE kd key es = some r ->
   (r = none /\ Instr.findNow d key xs i = some none) \/ ∃ u j x, r = some u /\ Instr.findNow d key xs i = some (some (i + j, x)) /\ Rep fid Γ u x /\ j < xs.length
 | [], xs, r, i, hx, h => by
   simp only [findE, Option.some.injEq] at h; subst h
   simp only [RepE] at hx; subst hx
   exact .inl ⟨rfl, rfl⟩
 | (k, v) :: es, xs, r, i, hx, h => by
   simp only [RepE] at hx
   obtain ⟨e, xs', rfl, h1, h2, h3⟩ := hx
   simp only [findE] at h
   split at h
   · rename_i hs
     cases h
     obtain ⟨d', hd, hs'⟩ := sameNow_of hk hs
     rw [hu] at hd; cases hd
     refine .inr ⟨v, 0, e.val, rfl, ?_, h2, by simp⟩
     simp only [Instr.findNow, h1, hs', Nat.add_zero]
   · rename_i hs
     obtain ⟨d', hd, hs'⟩ := sameNow_of hk hs
     rw [hu] at hd; cases hd
     rcases find_sound hk hu (i + 1) h3 h with ⟨rfl, h4⟩ | ⟨u, j, x, rfl, h4, h5, h6⟩
     · exact .inl ⟨rfl, by simp only [Instr.findNow, h1, hs', h4]⟩
     · exact .inr ⟨u, j + 1, x, rfl, by simp only [Instr.findNow, h1, hs', h4]; congr 3; omega, h5, by simp; omega⟩
   · cases h
theorem c_lookup (hr : Real fid Γ) {t kt e : TypeId} {kd : KD} {m k : Operand} {ok : Bool} {l : Nat} {key z : Value} {es : List (Value × V)} {r : Option V} (ho : o.op = .lookup t m k ok)
   (ht : P.underlying t = some (.map kt e)) (hk : kdT P kt = some kd) (hz : zeroT P e = some z) (hm : Rep fid Γ (.mp l) (ρ m)) (hkey : Rep fid Γ (.dat (.lit key)) (ρ k)) (hes : Γ.σ[l]? = some (.map es)) (h : findE kd key es = some r) :
   Comes P fid Γ ρ o (match r with | some u => if ok then .tup [u, .bool true] else u | none => if ok then .tup [.dat (toD z), .bool false] else .dat (toD z)) Γ.σ := by
 simp only [Rep] at hm
 obtain ⟨b, hb, hmx, _⟩ := hm
 obtain ⟨hF, ents, clock, h1, h2⟩ := hr.obs l _ b hes hb
 obtain ⟨d, hu⟩ := kdT_some hk
 have hrun : ∀ x, (Instr.findKey kt key ents.toList).run P Γ.w = .ok x Γ.w -> (Instr.lookup t (.map (some b)) key ok).run P Γ.w = (match x with
     | some (_, v) => Result.ok (if ok then .tuple #[v, .bool true] else v) Γ.w
     | none => Result.ok (if ok then .tuple #[z, .bool false] else z) Γ.w) := fun x hx => by
   simp only [Instr.lookup, Sem.run_bind, run_underlying ht, Result.andThen_ok, getObj, Sem.run, h1, Sem.run_pure, run_checkKey hk, hx]
   cases x with
   | none => simp [run_zeroValue hz]
   | some p => simp
 have hfk : ∀ x, Instr.findNow d key ents.toList 0 = some x -> (Instr.findKey kt key ents.toList).run P Γ.w = .ok x Γ.w := fun x hx => by
   simp only [Instr.findKey, Sem.run_bind, run_underlying hu, Result.andThen_ok, hx]
   rfl
 rcases find_sound hk hu 0 h2 h with ⟨rfl, h4⟩ | ⟨u, j, x, rfl, h4, h5, _⟩
 · refine .pure hr (x := if ok then .tuple #[z, .bool false] else z) ?_ ?_
   · simp only [execOp, ho, hmx, (Rep_lit hkey).1, Sem.run_bind, hrun _ (hfk _ h4), Result.andThen_ok, Sem.run_pure]
   · cases ok
     · simpa [Rep] using RepD_toD (zeroT_ok hz)
     · simp only [if_true, Rep]
       exact ⟨[z, .bool false], rfl, z, _, rfl, by simpa [Rep] using RepD_toD (zeroT_ok hz), _, _, rfl, mkLit rfl, rfl⟩
 · refine .pure hr (x := if ok then .tuple #[x, .bool true] else x) ?_ ?_
   · simp only [execOp, ho, hmx, (Rep_lit hkey).1, Sem.run_bind, hrun _ (hfk _ h4), Result.andThen_ok, Sem.run_pure]
   · cases ok
     · simpa using h5
     · simp only [if_true, Rep]
       exact ⟨[x, .bool true], rfl, x, _, rfl, h5, _, _, rfl, mkLit rfl, rfl⟩
theorem set_sound {kd : KD} {kt : TypeId} {d : TypeDesc} (hk : kdT P kt = some kd) (hu : P.underlying kt = some d) {key : Value} {u : V} {x : Value} (hx : Rep fid Γ u x) : ∀ {es es' : List (Value × V)} {xs : List MapEntry} (i clock : Nat), RepE fid Γ es xs -> setE kd key u es = some es' ->
   (Instr.findNow d key xs i = some none /\ RepE fid Γ es' (xs ++ [⟨key, x, clock⟩])) \/ ∃ j y old, Instr.findNow d key xs i = some (some (i + j, y)) /\ xs[j]? = some old /\ sameKey kd key old.key = some true /\
     ∀ f : MapEntry -> MapEntry, (∀ e, (f e).key = key /\ (f e).val = x) -> RepE fid Γ es' (xs.modify j f)
 | [], es', xs, i, clock, hxs, h => by
   simp only [setE, Option.some.injEq] at h; subst h
   simp only [RepE] at hxs; subst hxs
   exact .inl ⟨rfl, ⟨key, x, clock⟩, [], rfl, rfl, hx, rfl⟩
 | (k, v) :: es, es', xs, i, clock, hxs, h => by
   simp only [RepE] at hxs
   obtain ⟨e, xs', rfl, h1, h2, h3⟩ := hxs
   simp only [setE] at h
   split at h
   · rename_i hs
     cases h
     obtain ⟨d', hd, hs'⟩ := sameNow_of hk hs
     rw [hu] at hd; cases hd
     refine .inr ⟨0, e.val, e, ?_, by simp, by rw [h1]; exact hs, fun f hf => ?_⟩
     · simp only [Instr.findNow, h1, hs', Nat.add_zero]
     · rw [List.modify_zero_cons]
       simp only [RepE]
       exact ⟨f e, xs', rfl, (hf e).1, by rw [(hf e).2]; exact hx, h3⟩
   · rename_i hs
     obtain ⟨d', hd, hs'⟩ := sameNow_of hk hs
     rw [hu] at hd; cases hd
     split at h
     · rename_i r' hr'
       cases h
       rcases set_sound hk hu hx (i + 1) clock h3 hr' with ⟨h4, h5⟩ | ⟨j, y, old, h4, h5, h6, h7⟩
       · refine .inl ⟨by simp only [Instr.findNow, h1, hs', h4], ?_⟩
         simp only [List.cons_append, RepE]
         exact ⟨e, _, rfl, h1, h2, h5⟩
       · refine .inr ⟨j + 1, y, old, by simp only [Instr.findNow, h1, hs', h4]; congr 3; omega, by simpa using h5, h6, fun f hf => ?_⟩
         rw [List.modify_succ_cons]
         simp only [RepE]
         exact ⟨e, _, rfl, h1, h2, h7 f hf⟩
     · cases h
   · cases h
theorem bytes_beq (x y : ByteArray) : (x == y) = decide (x = y) := by
 have h : (x == y) = (x.data == y.data) := rfl
 rw [h, Bool.eq_iff_iff]
 simp only [beq_iff_eq, decide_eq_true_eq]
 exact ⟨fun h => by cases x; cases y; simp only at h; rw [h], fun h => by rw [h]⟩
theorem sameBits_of {kd : KD} {a b : Value} (h : sameKey kd a b = some true) (n : Nat) : Instr.sameBits n b a = true := by
 cases kd <;> cases a <;> cases b <;> simp_all [sameKey, Instr.sameBits]
 simp only [bytes_beq, decide_eq_true_eq] at h ⊢
 exact h.symm
theorem c_mapset (hr : Real fid Γ) {t kt e : TypeId} {kd : KD} {m k x : Operand} {l : Nat} {key : Value} {u : V} {es es' : List (Value × V)} (ho : o.op = .mapUpdate t m k x \/ o.op = .insert t m k x)
   (ht : P.underlying t = some (.map kt e)) (hk : kdT P kt = some kd) (hm : Rep fid Γ (.mp l) (ρ m)) (hkey : Rep fid Γ (.dat (.lit key)) (ρ k)) (hx : Rep fid Γ u (ρ x)) (hes : Γ.σ[l]? = some (.map es)) (h : setE kd key u es = some es') :
   Comes P fid Γ ρ o (.dat (.lit undef)) (Γ.σ.set l (.map es')) := by
 simp only [Rep] at hm
 obtain ⟨b, hb, hmx, _⟩ := hm
 obtain ⟨hF, ents, clock, h1, h2⟩ := hr.obs l _ b hes hb
 obtain ⟨d, hu⟩ := kdT_some hk
 have hfk : ∀ x, Instr.findNow d key ents.toList 0 = some x -> (Instr.findKey kt key ents.toList).run P Γ.w = .ok x Γ.w := fun x hx => by
   simp only [Instr.findKey, Sem.run_bind, run_underlying hu, Result.andThen_ok, hx]
   rfl
 have hblt := heap_lt h1
 have fin : ∀ ents' clock', (Instr.mapUpdate t (.map (some b)) key (ρ x)).run P Γ.w = .ok () { Γ.w with heap := Γ.w.heap.setIfInBounds b (.map ents' clock') } -> RepE fid Γ es' ents'.toList ->
     Comes P fid Γ ρ o (.dat (.lit undef)) (Γ.σ.set l (.map es')) := fun ents' clock' hrun hrep => by
   obtain ⟨u1, u2⟩ := upd hr hes rfl (ob' := .map es') rfl hb (w' := { Γ.w with heap := Γ.w.heap.setIfInBounds b (.map ents' clock') })
     ⟨rfl, rfl, rfl, by simp, fun k hk => by simp [Array.getElem?_setIfInBounds_ne (Ne.symm hk)]⟩ (fun hx => by
       simp only [RepOb]
       exact ⟨hF, ents', clock', by simp [hblt], RepE.ext hx _ _ hrep⟩)
   refine ⟨_, undef, rfl, u1, u2, mkLit rfl, .inr ⟨?_, rfl⟩⟩
   rcases ho with ho | ho <;> simp only [execOp, ho, hmx, (Rep_lit hkey).1, Sem.run_bind, hrun, Result.andThen_ok, Sem.run_pure]
 rcases set_sound hk hu hx 0 clock h2 h with ⟨h4, h5⟩ | ⟨j, y, old, h4, h5, h6, h7⟩
 · refine fin (ents.push ⟨key, ρ x, clock⟩) (clock + 1) ?_ (by simpa using h5)
   simp only [Instr.mapUpdate, Sem.run_bind, run_underlying ht, Result.andThen_ok, getObj, Sem.run, h1, run_checkKey hk, hfk _ h4, setObj]
 · refine fin (ents.modify j fun e => { e with key, val := ρ x }) clock ?_ (by
     have := h7 (fun e => { e with key, val := ρ x }) (fun e => ⟨rfl, rfl⟩)
     rw [Array.toList_modify]; exact this)
   have hold : ents[j]? = some old := by simpa using h5
   simp only [Instr.mapUpdate, Sem.run_bind, run_underlying ht, Result.andThen_ok, getObj, Sem.run, h1, run_checkKey hk, hfk _ h4, setObj, Nat.zero_add, hold, Option.map_some, Option.getD_some, Instr.keyThatStays, sameBits_of h6, if_true, Sem.run_pure]
end
end Go.Pm
end SI
section SJ
namespace Go.Pm
variable {P : Program} {ids : Ids} {fid : Fid} {N : Nat}
section
variable {Γ : Ctx} {fr : Fr} {ρ : Operand -> Value} {o : Oper} {v : V} {σ' : S} {C : Task -> Option Res}

theorem growBy_le (newLen : Nat) : ∀ (r c : Nat), c < newLen -> Builtin.growBy newLen r c <= 2 * newLen + 192
 | 0, c, h => by simp only [Builtin.growBy]; omega
 | r + 1, c, h => by
   simp only [Builtin.growBy]
   rw [if_neg (by omega)]
   by_cases h2 : c + (c + 768) / 4 < newLen
   · exact growBy_le newLen r _ h2
   · cases r with
     | zero => simp only [Builtin.growBy]; omega
     | succ r => simp only [Builtin.growBy]; rw [if_pos (by omega)]; omega
theorem nextslicecap_le {need cap : Nat} (h : cap < need) : Builtin.nextslicecap need cap <= 2 * need + 192 := by
 unfold Builtin.nextslicecap
 split
 · omega
 · split
   · omega
   · exact growBy_le _ _ _ h
theorem bytesD_rep (F : Nat -> Nat) (w : World) (s : ByteArray) : RepDs F w (bytesD s) (s.data.toList.map fun c => Value.int .u8 c.toNat) := by
 have : bytesD s = (s.data.toList.map fun c => Value.int .u8 c.toNat).map .lit := by simp [bytesD]
 rw [this]
 exact RepDs_lit fun v hv => by obtain ⟨c, _, rfl⟩ := List.mem_map.1 hv; rfl
theorem run_firstCells_str (sz : Nat) (s : ByteArray) (w : World) : (Builtin.firstCells sz s.size (.string s)).run P w = .ok (s.data.toList.map fun c => Value.int .u8 c.toNat).toArray w := by
 simp only [Builtin.firstCells, ByteArray.extract_zero_size, Sem.run_pure]
 congr 1
 apply Array.ext'
 simp
theorem src_sound {u : V} {x : Value} {xs : List D} {m sz : Nat} (hu : Rep fid Γ u x) (h : srcV u = some (xs, m)) (hl : xs.length = m * sz) :
   ∃ vs, RepDs Γ.F Γ.w xs vs /\ (∀ v ∈ vs, v.oneCell' = true) /\ (∀ w', (Builtin.lenOf x).run P w' = .ok m w') /\
     ∀ w' : World, (∀ b i, w'.cell? ⟨b, i, none⟩ = Γ.w.cell? ⟨b, i, none⟩) -> (Builtin.firstCells sz m x).run P w' = .ok vs.toArray w' := by
 unfold srcV at h
 split at h
 · rename_i a
   cases h
   rw [(Rep_lit hu).1]
   refine ⟨[], by simp [RepDs], by simp, fun w' => by simp [Builtin.lenOf], fun w' _ => ?_⟩
   cases a with
   | none => simp [Builtin.firstCells]
   | some a => simp [Builtin.firstCells, loadCells, loadCellsFrom]
 · cases h
   simp only [Rep, RepD] at hu
   obtain ⟨b, o', cap, vs, rfl, _, _, h3, h4⟩ := hu
   refine ⟨vs, h3, h4.2.2, fun w' => by simp [Builtin.lenOf], fun w' hw => ?_⟩
   have := run_loadCells (P := P) (w := w') (b := b) (o := o') (vs := vs) (fun j v hj => by rw [hw]; exact h4.1 j v hj)
   rw [h3.length, hl] at this
   simp only [Builtin.firstCells, this]
 · cases h
   simp only [Rep] at hu
   obtain ⟨b, cap, vs, k, rfl, _, h3, h4, _⟩ := hu
   refine ⟨vs, h3, h4.2.2, fun w' => by simp [Builtin.lenOf], fun w' hw => ?_⟩
   have := run_loadCells (P := P) (w := w') (b := b) (o := 0) (vs := vs) (fun j v hj => by rw [hw]; exact h4.1 j v hj)
   rw [h3.length, hl] at this
   simp only [Builtin.firstCells, this]
 · rename_i s
   cases h
   rw [(Rep_lit hu).1]
   exact ⟨_, bytesD_rep _ _ s, fun v hv => by obtain ⟨c, _, rfl⟩ := List.mem_map.1 hv; rfl, fun w' => by simp [Builtin.lenOf], fun w' _ => run_firstCells_str sz s w'⟩
 · cases h

section
variable {ts tx e ex : TypeId} {s x : Operand} {c : Call} {sz bytes : Nat} {z : Value}
theorem run_grows (hts : P.underlying ts = some (.slice e)) (htx : (∃ ex, P.underlying tx = some (.slice ex)) \/ P.underlying tx = some .string) (hsz : sizeT P e = some sz) (hby : bytesT P e = some bytes) (hz : zeroT P e = some z)
   {base : Option Addr} {sLen sCap m : Nat} {X : Value} {olds news : List Value} {w : World} (hlen : ∀ w', (Builtin.lenOf X).run P w' = .ok m w')
   (hgt : sCap < sLen + m) (hroom : roomFor (sLen + m) bytes = true)
   (hold : ∀ w' : World, (∀ b i, w'.cell? ⟨b, i, none⟩ = w.cell? ⟨b, i, none⟩) -> (Builtin.firstCells sz sLen (.slice base sLen sCap)).run P w' = .ok olds.toArray w')
   (hnew : ∀ w' : World, (∀ b i, w'.cell? ⟨b, i, none⟩ = w.cell? ⟨b, i, none⟩) -> (Builtin.firstCells sz m X).run P w' = .ok news.toArray w') :
   ∃ (cap : Nat) (rest : Array Value), sLen + m <= cap /\ rest.size = (cap - (sLen + m)) * z.cells.size /\
     (Builtin.append_ #[ts, tx] o.type #[.slice base sLen sCap, X]).run P w = .ok (.slice (some ⟨w.heap.size, 0, none⟩) (sLen + m) cap) (w.drew.alloc (.cells ((olds ++ news).toArray ++ rest) e)) := by
 simp only [roomFor, decide_eq_true_eq] at hroom
 have hn := nextslicecap_le hgt
 have h1 : (2 * (sLen + m) + 192) * (bytes + 1) = (2 * (sLen + m) + 192) * bytes + (2 * (sLen + m) + 192) := by rw [Nat.mul_add, Nat.mul_one]
 have h2 : Builtin.nextslicecap (sLen + m) sCap * bytes <= (2 * (sLen + m) + 192) * bytes := Nat.mul_le_mul_right _ hn
 have hmax : IntKind.max .i64 = 9223372036854775807 := by decide
 have hinfo : ∃ i, P.info? e = some i /\ i.bytes = bytes := by
   unfold bytesT at hby
   cases hi : P.info? e with
   | none => rw [hi] at hby; cases hby
   | some i => rw [hi] at hby; simp at hby; exact ⟨i, rfl, hby⟩
 obtain ⟨i, hi, hib⟩ := hinfo
 refine ⟨sLen + m + w.tape w.drawn (.appendCap (sLen + m) sCap e) % (2 ^ 63 - (sLen + m)), Builtin.zeroCells z.cells (sLen + m + w.tape w.drawn (.appendCap (sLen + m) sCap e) % (2 ^ 63 - (sLen + m)) - (sLen + m)), by omega, by simp [Builtin.zeroCells], ?_⟩
 rcases htx with ⟨ex, htx⟩ | htx
 all_goals
   simp only [Builtin.append_, List.getElem?_toArray, List.getElem?_cons_zero, List.getElem?_cons_succ, Sem.run_bind, run_underlying hts, Result.andThen_ok, run_sizeOf hsz, run_underlying htx, Sem.run_pure, hlen, Bool.false_eq_true, if_false]
   rw [if_neg (by omega)]
   simp only [Sem.run_bind, run_typeInfo hi, Result.andThen_ok, hib, false_or]
   rw [Sem.run_ite]
   have c1 : ¬ (((sLen + m : Nat) : Int) > IntKind.i64.max /\ bytes = 0) := by
     rw [hmax]; intro h; have := h.1; omega
   rw [if_neg c1]
   simp only [Sem.run_bind, run_typeInfo hi, Result.andThen_ok, hib]
   rw [Sem.run_ite, if_neg (by omega)]
   simp only [Sem.run_bind, run_choose, Question.forced, Bool.false_eq_true, if_false, Question.cut, Result.andThen_ok, run_askRoom]
   simp only [run_typeInfo hi, Result.andThen_ok, World.drew_eq]
   rw [hold w.drew (fun b i => rfl)]
   simp only [Result.andThen_ok, if_true, Bool.not_false]
   rw [hnew w.drew (fun b i => rfl)]
   simp only [Result.andThen_ok, run_zeroValue hz, newRow, Sem.run_bind, run_newObj, Sem.run_pure]
   simp
   rfl
theorem run_fits (hts : P.underlying ts = some (.slice e)) (htx : (∃ ex, P.underlying tx = some (.slice ex)) \/ P.underlying tx = some .string) (hsz : sizeT P e = some sz)
   {base : Option Addr} {sLen sCap m : Nat} {X : Value} {news : List Value} {w w' : World} (hlen : (Builtin.lenOf X).run P w = .ok m w)
   (hle : sLen + m <= sCap) (hnew : (Builtin.firstCells sz m X).run P w = .ok news.toArray w)
   (hst : (match base with | some a => storeCells (a.add (sLen * sz)) news | none => pure ()).run P w = .ok () w') :
   (Builtin.append_ #[ts, tx] o.type #[.slice base sLen sCap, X]).run P w = .ok (.slice base (sLen + m) sCap) w' := by
 rcases htx with ⟨ex, htx⟩ | htx
 all_goals
   simp only [Builtin.append_, List.getElem?_toArray, List.getElem?_cons_zero, List.getElem?_cons_succ, Sem.run_bind, run_underlying hts, Result.andThen_ok, run_sizeOf hsz, run_underlying htx, Sem.run_pure, hlen, Bool.false_eq_true, if_false]
   rw [if_pos hle]
   simp only [Sem.run_bind, Bool.not_false, if_true, hnew, Result.andThen_ok]
   cases base with
   | none =>
     simp only [Sem.run_pure] at hst ⊢
     cases hst
     simp
   | some a =>
     simp only at hst ⊢
     simp only [Sem.run_bind, hst]
     simp
theorem append_call (ho : o.op = .call c) (hcal : c.callee = .builtin .append) (hargs : c.args.toList = [s, x]) (hts : c.argTypes.toList = [ts, tx]) {w w' : World} {r : Value}
   (h : (Builtin.append_ #[ts, tx] o.type #[ρ s, ρ x]).run P w = .ok r w') : (execOp ρ o).run P w = .ok (.value r) w' := by
 have ha : c.args = #[s, x] := by apply Array.ext'; simpa using hargs
 have hb : c.argTypes = #[ts, tx] := by apply Array.ext'; simpa using hts
 simp only [execOp, ho, resolve, hcal, ha, hb, invoke, builtin, Sem.run_bind, Sem.run_pure, Result.andThen_ok]
 simp [h]
theorem c_append (hr : Real fid Γ) (ho : o.op = .call c) (hcal : c.callee = .builtin .append) (hargs : c.args.toList = [s, x]) (hats : c.argTypes.toList = [ts, tx])
   (hts : P.underlying ts = some (.slice e)) (htx : (∃ ex, P.underlying tx = some (.slice ex)) \/ P.underlying tx = some .string) (hsz : sizeT P e = some sz) (hby : bytesT P e = some bytes) (hz : zeroT P e = some z) (hzn : z.cells.size = sz)
   {a b u : V} (ha : Rep fid Γ a (ρ s)) (hb : Rep fid Γ b (ρ x)) (h : appendV Γ.σ sz bytes a b = some (u, σ')) : Comes P fid Γ ρ o u σ' := by
 unfold appendV at h
 split at h
 · cases h
 · rename_i xs m hsrc
   split at h
   · rename_i hcond
     obtain ⟨hxl, hsz0⟩ := hcond
     obtain ⟨news, n1, n2, n3, n4⟩ := src_sound (P := P) hb hsrc hxl
     have hnl : news.length = m * sz := by rw [n1.length, hxl]
     split at h
     · -- nothing is appended
       rename_i hm
       subst hm
       have hnews : news = [] := by
         apply List.eq_nil_of_length_eq_zero; rw [hnl]; simp
       have fin : ∀ base n cap, ρ s = .slice base n cap -> n <= cap -> (u = a /\ σ' = Γ.σ) -> Comes P fid Γ ρ o u σ' := fun base n cap hs hle hu => by
         obtain ⟨rfl, rfl⟩ := hu
         refine .pure hr (x := ρ s) ?_ ha
         refine append_call ho hcal hargs hats ?_
         rw [hs]
         have := run_fits (P := P) (o := o) hts htx hsz (base := base) (n3 Γ.w) (show n + 0 <= cap by omega) (n4 Γ.w fun _ _ => rfl) (w' := Γ.w) (by rw [hnews]; cases base <;> simp [storeCells])
         simpa using this
       split at h
       · cases h
         exact fin _ _ _ (Rep_lit ha).1 (Nat.le_refl _) ⟨rfl, rfl⟩
       · cases h
         have ha' := ha
         simp only [Rep, RepD] at ha'
         obtain ⟨b', o', cap, vs, hs, h2, _⟩ := ha'
         exact fin _ _ _ hs h2 ⟨rfl, rfl⟩
       · cases h
         have ha' := ha
         simp only [Rep] at ha'
         obtain ⟨b', cap, vs, k, hs, h2, _⟩ := ha'
         exact fin _ _ _ hs h2 ⟨rfl, rfl⟩
       · cases h
     · rename_i hm
       -- a new row, with a new tip
       have fresh : ∀ {olds : List Value} {cs : List D} {base : Option Addr} {n cap : Nat}, ρ s = .slice base n cap -> cap < n + m -> roomFor (n + m) bytes = true -> RepDs Γ.F Γ.w cs olds -> (∀ v ∈ olds, v.oneCell' = true) -> cs.length = n * sz ->
           (∀ w' : World, (∀ b i, w'.cell? ⟨b, i, none⟩ = Γ.w.cell? ⟨b, i, none⟩) -> (Builtin.firstCells sz n (.slice base n cap)).run P w' = .ok olds.toArray w') ->
           ∃ (newCap : Nat) (rest : Array Value), n + m <= newCap /\ (n + m) * sz + rest.size = newCap * sz /\ (cs ++ xs).length = (n + m) * sz /\ 0 < (n + m) * sz /\ RepDs Γ.F Γ.w (cs ++ xs) (olds ++ news) /\ (∀ v ∈ olds ++ news, v.oneCell' = true) /\
             (execOp ρ o).run P Γ.w = .ok (.value (.slice (some ⟨Γ.w.heap.size, 0, none⟩) (n + m) newCap)) (Γ.w.drew.alloc (.cells ((olds ++ news).toArray ++ rest) e)) := by
         intro olds cs base n cap hs hlt hroom hd hone hcl hold
         obtain ⟨newCap, rest, r1, r2, r3⟩ := run_grows (P := P) (o := o) hts htx hsz hby hz n3 hlt hroom hold n4
         refine ⟨newCap, rest, r1, ?_, ?_, Nat.mul_pos (by omega) hsz0, RepDs_append.2 ⟨_, _, rfl, hd, n1⟩, ?_, append_call ho hcal hargs hats (by rw [hs]; exact r3)⟩
         · rw [r2, hzn, <- Nat.add_mul]; congr 1; omega
         · rw [List.length_append, hcl, hxl, Nat.add_mul]
         · intro v hv
           rcases List.mem_append.1 hv with hv | hv
           · exact hone v hv
           · exact n2 v hv
       obtain ⟨d1, d2⟩ := drewStep hr
       -- what a grown row means
       have grown : ∀ {Γ' : Ctx} {olds : List Value} {cs : List D} {rest : Array Value} {n newCap l : Nat}, Ext ⟨Γ.σ, Γ.μ, Γ.F, Γ.w.drew⟩ Γ' -> Γ'.w = Γ.w.drew.alloc (.cells ((olds ++ news).toArray ++ rest) e) -> Γ'.F Γ.w.heap.size = (cs ++ xs).length ->
           Γ'.σ[l]? = some (.tip (cs ++ xs).length) -> Γ'.μ l = some Γ.w.heap.size -> n + m <= newCap -> (n + m) * sz + rest.size = newCap * sz -> (cs ++ xs).length = (n + m) * sz -> 0 < (n + m) * sz -> RepDs Γ.F Γ.w (cs ++ xs) (olds ++ news) -> (∀ v ∈ olds ++ news, v.oneCell' = true) ->
           Rep fid Γ' (.gsl (cs ++ xs) (n + m) sz l) (.slice (some ⟨Γ.w.heap.size, 0, none⟩) (n + m) newCap) := by
         intro Γ' olds cs rest n newCap l hx hw hF hσ hμ g1 g2 g3 g4 g5 g6
         have hlen := g5.length
         simp only [Rep]
         refine ⟨Γ.w.heap.size, newCap, olds ++ news, (cs ++ xs).length, rfl, g1, RepDs.ext hx _ _ (RepDs.ext d2.ext _ _ g5), ⟨fun i v hi => ?_, fun _ => by rw [hF, hlen]; omega, g6⟩, ?_, hσ, by simp [hμ], Nat.le_refl _, fun _ => ⟨hμ, _, e, by rw [hw]; exact heap_alloc_new Γ.w.drew _, ?_⟩⟩
         · have hi' : i < (olds ++ news).length := (List.getElem?_eq_some_iff.1 hi).1
           simp only [World.cell?, hw]
           rw [show Γ.w.heap.size = Γ.w.drew.heap.size from rfl, heap_alloc_new]
           simp only [Option.isSome_none, Bool.false_eq_true, if_false, Nat.zero_add]
           rw [Array.getElem?_append_left (by simpa using hi')]
           simpa using hi
         · intro h0
           rw [h0] at g3
           simp at g3
           omega
         · simp only [Array.size_append, List.size_toArray, hlen, g3]
           omega
       split at h
       · -- a nil slice
         split at h
         · rename_i hroom
           cases h
           obtain ⟨newCap, rest, f1, f2, f3, f4, f5, f6, f7⟩ := fresh (olds := []) (cs := []) (Rep_lit ha).1 (show 0 < 0 + m by omega) (by simpa using hroom) (by simp [RepDs]) (by simp) (by simp)
             (fun w' _ => by simp [Builtin.firstCells])
           obtain ⟨k1, k2⟩ := allocOb d1 (.tip xs.length) (.cells (([] ++ news).toArray ++ rest) e) xs.length
             (fun Γ' e' hx => by subst e'; simp only [RepOb, grow, if_pos]; simp at f3; exact ⟨trivial, by rw [f3]; simpa using f4⟩)
             (fun _ => ⟨_, _, _, rfl, by simp [hnl, hxl]⟩)
           refine ⟨_, _, rfl, k1, d2.trans k2, ?_, .inl f7⟩
           have := grown (cs := []) (olds := []) (rest := rest) (n := 0) (newCap := newCap) (l := Γ.σ.length) k2.ext rfl (by simp [grow]) (by simp) (by simp [bind]) f1 f2 f3 f4 f5 f6
           simpa using this
         · cases h
       · -- a full slice
         rename_i cs n
         split at h
         · rename_i hcond
           obtain ⟨hroom, hcl⟩ := hcond
           cases h
           have ha' := ha
           simp only [Rep, RepD] at ha'
           obtain ⟨b', o', cap, olds, hs, h2, h3, h4, h5⟩ := ha'
           have hcap := h3 trivial
           subst hcap
           obtain ⟨newCap, rest, f1, f2, f3, f4, f5, f6, f7⟩ := fresh hs (show cap < cap + m by omega) hroom h4 h5.2.2 hcl (fun w' hw => by
             have := run_loadCells (P := P) (w := w') (b := b') (o := o') (vs := olds) (fun j v hj => by rw [hw]; exact h5.1 j v hj)
             rw [h4.length, hcl] at this
             simp only [Builtin.firstCells, this])
           obtain ⟨k1, k2⟩ := allocOb d1 (.tip (cs ++ xs).length) (.cells ((olds ++ news).toArray ++ rest) e) (cs ++ xs).length
             (fun Γ' e' hx => by subst e'; simp only [RepOb, grow, if_pos]; exact ⟨trivial, by rw [f3]; exact f4⟩)
             (fun _ => ⟨_, _, _, rfl, by have := f5.length; simp only [Array.size_append, List.size_toArray]; omega⟩)
           exact ⟨_, _, rfl, k1, d2.trans k2, grown k2.ext rfl (by simp [grow]) (by simp) (by simp [bind]) f1 f2 f3 f4 f5 f6, .inl f7⟩
         · cases h
       · -- a row of the program's own
         rename_i cs n sz' l
         split at h
         · rename_i k hk
           split at h
           · rename_i hcond
             obtain ⟨hroom, hcl, rfl, hkl⟩ := hcond
             cases h
             have ha' := ha
             simp only [Rep] at ha'
             obtain ⟨b', cap, olds, m', hs, h2, h4, h5, h6, h7, h8, h9, h10⟩ := ha'
             rw [hk] at h7
             cases h7
             obtain ⟨q1, arr, e', q2, q3⟩ := h10 hkl.symm
             subst hkl
             by_cases hfit : n + m <= cap
             · -- it fits
               have hbd : (n + m) * sz' <= cap * sz' := Nat.mul_le_mul_right _ hfit
               rw [Nat.add_mul] at hbd
               obtain ⟨w', s1, s2, arr', s3, s4⟩ := run_storeCells (P := P) news 0 Γ.w b' (n * sz') arr e' q2 n2 (by rw [hnl]; omega)
               have hlen' : arr'.size = arr.size := by
                 have := congrArg List.length s4
                 simp [hnl] at this
                 omega
               obtain ⟨k1, k2⟩ := growTip hr hk q1 (show cs.length < (cs ++ xs).length by rw [List.length_append, hxl]; have := Nat.mul_pos (show 0 < m by omega) hsz0; omega) s2 q2 s3 hlen'
                 (by rw [List.length_append, hcl, hxl]; omega) (fun i hi => by
                   rw [<- Array.getElem?_toList, <- Array.getElem?_toList, s4, List.getElem?_append_left (by simp; omega), List.getElem?_take_of_lt (by omega)])
               refine ⟨_, .slice (some ⟨b', 0, none⟩) (n + m) cap, rfl, k1, k2, ?_, .inl (append_call ho hcal hargs hats ?_)⟩
               · simp only [Rep]
                 have holdlen := h4.length
                 refine ⟨b', cap, olds ++ news, (cs ++ xs).length, rfl, hfit, RepDs.ext k2.ext _ _ (RepDs_append.2 ⟨_, _, rfl, h4, n1⟩), ⟨fun i v hi => ?_, fun _ => ?_, ?_⟩, ?_, ?_, ?_, Nat.le_refl _, fun _ => ⟨q1, arr', e', s3, by omega⟩⟩
                 · simp only [World.cell?, s3, Option.isSome_none, Bool.false_eq_true, if_false, Nat.zero_add]
                   rw [<- Array.getElem?_toList, s4]
                   by_cases hi' : i < olds.length
                   · rw [List.getElem?_append_left hi'] at hi
                     rw [List.getElem?_append_left (by simp; omega), List.getElem?_take_of_lt (by omega)]
                     have := h5.1 i v hi
                     simpa [World.cell?, q2] using this
                   · rw [List.getElem?_append_right (by omega)] at hi
                     have hi2 : i - olds.length < news.length := (List.getElem?_eq_some_iff.1 hi).1
                     rw [List.getElem?_append_right (by simp; omega), List.getElem?_append_left (by simp; omega)]
                     rw [<- hi]; congr 1; simp; omega
                 · simp [grow, holdlen, n1.length]
                 · intro v hv
                   rcases List.mem_append.1 hv with hv | hv
                   · exact h5.2.2 v hv
                   · exact n2 v hv
                 · simp [h6]
                 · simp only [List.getElem?_set_self (List.getElem?_eq_some_iff.1 hk).1]
                 · simp [q1]
               · rw [hs]
                 refine run_fits (P := P) (o := o) hts htx hsz (n3 Γ.w) hfit (n4 Γ.w fun _ _ => rfl) ?_
                 simp only [add_none, Nat.zero_add]
                 exact s1
             · -- it moves
               obtain ⟨newCap, rest, f1, f2, f3, f4, f5, f6, f7⟩ := fresh hs (show cap < n + m by omega) hroom h4 h5.2.2 hcl (fun w' hw => by
                 have := run_loadCells (P := P) (w := w') (b := b') (o := 0) (vs := olds) (fun j v hj => by rw [hw]; exact h5.1 j v hj)
                 rw [h4.length, hcl] at this
                 simp only [Builtin.firstCells, this])
               obtain ⟨k1, k2⟩ := moveTip d1 hk h8 (show cs.length < (cs ++ xs).length by rw [List.length_append, hxl]; have := Nat.mul_pos (show 0 < m by omega) hsz0; omega) ((olds ++ news).toArray ++ rest) e
                 (by have := f5.length; simp only [Array.size_append, List.size_toArray]; omega)
               exact ⟨_, _, rfl, k1, d2.trans k2, grown k2.ext rfl (by simp [grow]) (by simp [(List.getElem?_eq_some_iff.1 hk).1]) (by simp [bind]) f1 f2 f3 f4 f5 f6, .inl f7⟩
           · cases h
         · cases h
       · cases h
   · cases h
end
end
end Go.Pm
end SJ
section SJ2
namespace Go.Pm
variable {P : Program} {ids : Ids} {fid : Fid} {N : Nat}
section
variable {Γ : Ctx} {fr : Fr} {ρ : Operand -> Value} {o : Oper} {v : V} {σ' : S}
theorem vec_cells (hr : Real fid Γ) {l b : Nat} {cs : List V} (ho : Γ.σ[l]? = some (.vec cs)) (hm : Γ.μ l = some b) :
   ∃ vs arr e, Γ.w.heap[b]? = some (.cells arr e (0, 0)) /\ cs.length <= arr.size /\ vs = arr.toList.take cs.length /\ Reps fid Γ cs vs /\ (∀ v ∈ vs, v.oneCell' = true) /\ Γ.F b = 0 /\ ∀ j v, vs[j]? = some v -> Γ.w.cell? ⟨b, j, none⟩ = some v := by
 have := hr.obs l _ b ho hm
 simp only [RepOb] at this
 obtain ⟨h1, arr, e, h2, h3, h4, h5⟩ := this
 refine ⟨_, arr, e, h2, h3, rfl, h4, h5, h1, fun j x hj => ?_⟩
 simp only [World.cell?, h2]
 simpa using take_get hj
theorem srcO_row (hr : Real fid Γ) {u : V} {x : Value} {xs : List V} {m : Nat} (hu : Rep fid Γ u x) (h : srcO Γ.σ u = some (xs, m)) :
   (∃ a, x = .slice a 0 0 /\ xs = [] /\ m = 0) \/ (∃ s, u = .dat (.lit (.string s)) /\ x = .string s /\ xs = (bytesD s).map .dat /\ m = s.size) \/
   ∃ b off cap vs, x = .slice (some ⟨b, off, none⟩) m cap /\ Reps fid Γ xs vs /\ ∀ j v, vs[j]? = some v -> Γ.w.cell? ⟨b, off + j, none⟩ = some v := by
 unfold srcO at h
 split at h
 · rename_i a
   cases h
   exact .inl ⟨a, (Rep_lit hu).1, rfl, rfl⟩
 · cases h
   simp only [Rep, RepD] at hu
   obtain ⟨b, o', cap, vs, hx, _, _, h3, h4⟩ := hu
   exact .inr (.inr ⟨b, o', cap, vs, hx, Reps_dat.2 h3, h4.1⟩)
 · cases h
   simp only [Rep] at hu
   obtain ⟨b, cap, vs, k, hx, _, h3, h4, _⟩ := hu
   exact .inr (.inr ⟨b, 0, cap, vs, hx, Reps_dat.2 h3, h4.1⟩)
 · rename_i s
   cases h
   exact .inr (.inl ⟨s, rfl, (Rep_lit hu).1, rfl, rfl⟩)
 · rename_i l n sz'
   simp only [Rep] at hu
   obtain ⟨a, cap, hx, h2, h0, h3, h4⟩ := hu
   split at h
   · rename_i cs hcs
     split at h
     · rename_i hlen
       cases h
       obtain ⟨b, arr, e, g1, rfl, g3, g4⟩ := (h4 _ _ hcs rfl).2 hlen
       obtain ⟨vs, arr', e', k1, k2, k3, k4, k5, k6, k7⟩ := vec_cells hr hcs g1
       exact .inr (.inr ⟨b, 0, cap, vs, hx, k4, by simpa using k7⟩)
     · cases h
   · rename_i ds hds
     split at h
     · rename_i hlen
       cases h
       obtain ⟨b, arr, e, g1, rfl, g3, g4⟩ := (h4 _ _ hds rfl).2 (by simpa using hlen)
       obtain ⟨vs, k1, k2⟩ := froz_row hr hds g1
       exact .inr (.inr ⟨b, 0, cap, vs, hx, Reps_dat.2 k1, k2.1⟩)
     · cases h
   · cases h
 · rename_i l off n cap sz'
   simp only [Rep] at hu
   obtain ⟨b, hm, hx, h2, h3⟩ := hu
   split at h
   · rename_i cs hcs
     split at h
     · rename_i hle
       cases h
       obtain ⟨_, arr, e, g2, g3⟩ := hr.obs l _ b hcs hm
       refine .inr (.inr ⟨b, off, cap, _, hx, Reps_take (Reps_drop g3 off) (m * sz'), fun j v hj => ?_⟩)
       simp only [World.cell?, g2]
       rw [List.getElem?_take] at hj
       split at hj
       · rw [List.getElem?_drop] at hj
         simpa using hj
       · cases hj
     · cases h
   · cases h
 · cases h
theorem srcO_sound (hr : Real fid Γ) {u : V} {x : Value} {xs : List V} {m sz : Nat} (hu : Rep fid Γ u x) (h : srcO Γ.σ u = some (xs, m)) (hl : xs.length = m * sz) (h1 : xs.all V.one = true) :
   ∃ vs, Reps fid Γ xs vs /\ (∀ v ∈ vs, v.oneCell' = true) /\ (∀ w', (Builtin.lenOf x).run P w' = .ok m w') /\
     ∀ w' : World, (∀ b i, w'.cell? ⟨b, i, none⟩ = Γ.w.cell? ⟨b, i, none⟩) -> (Builtin.firstCells sz m x).run P w' = .ok vs.toArray w' := by
 rcases srcO_row hr hu h with ⟨a, rfl, rfl, rfl⟩ | ⟨s, rfl, rfl, rfl, rfl⟩ | ⟨b, off, cap, vs, rfl, hv, hc⟩
 · refine ⟨[], by simp [Reps], by simp, fun w' => by simp [Builtin.lenOf], fun w' _ => ?_⟩
   cases a with
   | none => simp [Builtin.firstCells]
   | some a => simp [Builtin.firstCells, loadCells, loadCellsFrom]
 · exact ⟨_, Reps_dat.2 (bytesD_rep _ _ s), fun v hv => by obtain ⟨c, _, rfl⟩ := List.mem_map.1 hv; rfl, fun w' => by simp [Builtin.lenOf], fun w' _ => run_firstCells_str sz s w'⟩
 · refine ⟨vs, hv, Reps_one hv h1, fun w' => by simp [Builtin.lenOf], fun w' hw => ?_⟩
   have := run_loadCells (P := P) (w := w') (b := b) (o := off) (vs := vs) (fun j v hj => by rw [hw]; exact hc j v hj)
   rw [Reps.length hv, hl] at this
   simp only [Builtin.firstCells, this]
section
variable {ts tx e ex : TypeId} {s x : Operand} {c : Call} {sz bytes : Nat} {z : Value}
theorem c_appendO (hr : Real fid Γ) (ho : o.op = .call c) (hcal : c.callee = .builtin .append) (hargs : c.args.toList = [s, x]) (hats : c.argTypes.toList = [ts, tx])
   (hts : P.underlying ts = some (.slice e)) (htx : (∃ ex, P.underlying tx = some (.slice ex)) \/ P.underlying tx = some .string) (hsz : sizeT P e = some sz) (hby : bytesT P e = some bytes) (hz : zeroT P e = some z) (hzn : z.cells.size = sz)
   {a b u : V} (ha : Rep fid Γ a (ρ s)) (hb : Rep fid Γ b (ρ x)) (h : appendO Γ.σ sz bytes a b = some (u, σ')) : Comes P fid Γ ρ o u σ' := by
 unfold appendO at h
 split at h
 · cases h
 · rename_i xs m hsrc
   split at h
   · rename_i hcond
     obtain ⟨hxl, hsz0, hone⟩ := hcond
     obtain ⟨news, n1, n2, n3, n4⟩ := srcO_sound (P := P) hr hb hsrc hxl hone
     have hnl : news.length = m * sz := by rw [Reps.length n1, hxl]
     split at h
     · rename_i hm
       subst hm
       have hnews : news = [] := by
         apply List.eq_nil_of_length_eq_zero; rw [hnl]; simp
       have fin : ∀ base n cap, ρ s = .slice base n cap -> n <= cap -> (u = a /\ σ' = Γ.σ) -> Comes P fid Γ ρ o u σ' := fun base n cap hs hle hu => by
         obtain ⟨rfl, rfl⟩ := hu
         refine .pure hr (x := ρ s) ?_ ha
         refine append_call ho hcal hargs hats ?_
         rw [hs]
         have := run_fits (P := P) (o := o) hts htx hsz (base := base) (n3 Γ.w) (show n + 0 <= cap by omega) (n4 Γ.w fun _ _ => rfl) (w' := Γ.w) (by rw [hnews]; cases base <;> simp [storeCells])
         simpa using this
       split at h
       · cases h
         exact fin _ _ _ (Rep_lit ha).1 (Nat.le_refl _) ⟨rfl, rfl⟩
       · cases h
         have ha' := ha
         simp only [Rep, RepD] at ha'
         obtain ⟨b', o', cap, vs, hs, h2, _⟩ := ha'
         exact fin _ _ _ hs h2 ⟨rfl, rfl⟩
       · cases h
         have ha' := ha
         simp only [Rep] at ha'
         obtain ⟨b', cap, hs, h2, _⟩ := ha'
         exact fin _ _ _ hs h2 ⟨rfl, rfl⟩
       · cases h
     · rename_i hm
       have fresh : ∀ {olds : List Value} {cs : List V} {base : Option Addr} {n cap : Nat}, ρ s = .slice base n cap -> cap < n + m -> roomFor (n + m) bytes = true -> Reps fid Γ cs olds -> cs.length = n * sz ->
           (∀ w' : World, (∀ b i, w'.cell? ⟨b, i, none⟩ = Γ.w.cell? ⟨b, i, none⟩) -> (Builtin.firstCells sz n (.slice base n cap)).run P w' = .ok olds.toArray w') ->
           ∃ (newCap : Nat) (rest : Array Value), n + m <= newCap /\ (n + m) * sz + rest.size = newCap * sz /\ (cs ++ xs).length = (n + m) * sz /\ Reps fid Γ (cs ++ xs) (olds ++ news) /\
             (execOp ρ o).run P Γ.w = .ok (.value (.slice (some ⟨Γ.w.heap.size, 0, none⟩) (n + m) newCap)) (Γ.w.drew.alloc (.cells ((olds ++ news).toArray ++ rest) e)) := by
         intro olds cs base n cap hs hlt hroom hd hcl hold
         obtain ⟨newCap, rest, r1, r2, r3⟩ := run_grows (P := P) (o := o) hts htx hsz hby hz n3 hlt hroom hold n4
         refine ⟨newCap, rest, r1, ?_, ?_, Reps_append.2 ⟨_, _, rfl, hd, n1⟩, append_call ho hcal hargs hats (by rw [hs]; exact r3)⟩
         · rw [r2, hzn, <- Nat.add_mul]; congr 1; omega
         · rw [List.length_append, hcl, hxl, Nat.add_mul]
       obtain ⟨d1, d2⟩ := drewStep hr
       -- what a grown row's object and value mean
       have obok : ∀ {Γ' : Ctx} {olds : List Value} {cs : List V} {rest : Array Value}, Ext ⟨Γ.σ, Γ.μ, Γ.F, Γ.w.drew⟩ Γ' -> Γ'.w = Γ.w.drew.alloc (.cells ((olds ++ news).toArray ++ rest) e) -> Γ'.F Γ.w.heap.size = 0 ->
           Reps fid Γ (cs ++ xs) (olds ++ news) -> (∀ v ∈ olds, v.oneCell' = true) -> RepOb fid Γ' Γ.w.heap.size (.vec (cs ++ xs)) := by
         intro Γ' olds cs rest hx hw hF g1 g2
         have hlen := Reps.length g1
         have htk : ((olds ++ news).toArray ++ rest).toList.take (cs ++ xs).length = olds ++ news := by
           rw [<- hlen, Array.toList_append]; exact List.take_left' rfl
         simp only [RepOb]
         refine ⟨hF, _, e, by rw [hw]; exact heap_alloc_new Γ.w.drew _, by rw [<- hlen]; simp, ?_, ?_⟩
         · rw [htk]; exact Reps.ext hx _ _ (Reps.ext d2.ext _ _ g1)
         · rw [htk]
           intro v hv
           rcases List.mem_append.1 hv with hv | hv
           · exact g2 v hv
           · exact n2 v hv
       have grown : ∀ {Γ' : Ctx} {olds : List Value} {cs : List V} {rest : Array Value} {n newCap l : Nat}, Γ'.w = Γ.w.drew.alloc (.cells ((olds ++ news).toArray ++ rest) e) ->
           Γ'.σ[l]? = some (.vec (cs ++ xs)) -> Γ'.μ l = some Γ.w.heap.size -> n + m <= newCap -> (n + m) * sz + rest.size = newCap * sz -> (cs ++ xs).length = (n + m) * sz -> Reps fid Γ (cs ++ xs) (olds ++ news) ->
           Rep fid Γ' (.own l (n + m) sz) (.slice (some ⟨Γ.w.heap.size, 0, none⟩) (n + m) newCap) := by
         intro Γ' olds cs rest n newCap l hw hσ hμ g1 g2 g3 g5
         have hlen := Reps.length g5
         simp only [Rep]
         refine ⟨_, _, rfl, g1, hsz0, ⟨_, hσ, rfl⟩, fun ob cs' k1 k2 => ?_⟩
         rw [hσ] at k1; cases k1
         simp only [Ob.rows, Option.some.injEq] at k2; subst k2
         refine ⟨by rw [g3]; exact Nat.le_refl _, fun _ => ⟨Γ.w.heap.size, _, e, hμ, rfl, by rw [hw]; exact heap_alloc_new Γ.w.drew _, ?_⟩⟩
         simp only [Array.size_append, List.size_toArray, hlen, g3]
         omega
       split at h
       · split at h
         · rename_i hroom
           cases h
           obtain ⟨newCap, rest, f1, f2, f3, f5, f7⟩ := fresh (olds := []) (cs := []) (Rep_lit ha).1 (show 0 < 0 + m by omega) (by simpa using hroom) (by simp [Reps]) (by simp)
             (fun w' _ => by simp [Builtin.firstCells])
           obtain ⟨k1, k2⟩ := allocOb d1 (.vec xs) (.cells (([] ++ news).toArray ++ rest) e) 0
             (fun Γ' e' hx => by
               have := obok (cs := []) (olds := []) (rest := rest) hx (by subst e'; rfl) (by subst e'; simp [grow]) f5 (by simp)
               simpa using this) (fun h => absurd h (Nat.lt_irrefl _))
           refine ⟨_, _, rfl, k1, d2.trans k2, ?_, .inl f7⟩
           have := grown (cs := []) (olds := []) (rest := rest) (n := 0) (newCap := newCap) (l := Γ.σ.length) (Γ' := ⟨Γ.σ ++ [.vec xs], bind Γ.μ Γ.σ.length Γ.w.drew.heap.size, grow Γ.F Γ.w.drew.heap.size 0, Γ.w.drew.alloc (.cells (([] ++ news).toArray ++ rest) e)⟩) rfl (by simp) (by simp [bind]) f1 f2 f3 f5
           simpa using this
         · cases h
       · rename_i cs n
         split at h
         · rename_i hcond
           obtain ⟨hroom, hcl⟩ := hcond
           cases h
           have ha' := ha
           simp only [Rep, RepD] at ha'
           obtain ⟨b', o', cap, olds, hs, h2, h3, h4, h5⟩ := ha'
           have hcap := h3 trivial
           subst hcap
           obtain ⟨newCap, rest, f1, f2, f3, f5, f7⟩ := fresh (cs := cs.map .dat) hs (show cap < cap + m by omega) hroom (Reps_dat.2 h4) (by simpa using hcl) (fun w' hw => by
             have := run_loadCells (P := P) (w := w') (b := b') (o := o') (vs := olds) (fun j v hj => by rw [hw]; exact h5.1 j v hj)
             rw [h4.length, hcl] at this
             simp only [Builtin.firstCells, this])
           obtain ⟨k1, k2⟩ := allocOb d1 (.vec (cs.map .dat ++ xs)) (.cells ((olds ++ news).toArray ++ rest) e) 0
             (fun Γ' e' hx => obok hx (by subst e'; rfl) (by subst e'; simp [grow]) f5 h5.2.2) (fun h => absurd h (Nat.lt_irrefl _))
           exact ⟨_, _, rfl, k1, d2.trans k2, grown rfl (by simp) (by simp [bind]) f1 f2 f3 f5, .inl f7⟩
         · cases h
       · rename_i l n sz'
         split at h
         · rename_i cs hcs
           split at h
           · rename_i hcond
             obtain ⟨hroom, hcl, rfl⟩ := hcond
             cases h
             have ha' := ha
             simp only [Rep] at ha'
             obtain ⟨ad, cap, hs, h2, h0, h3, h4⟩ := ha'
             obtain ⟨b', arr, e', q1, rfl, q2, q3⟩ := (h4 _ _ hcs rfl).2 hcl
             obtain ⟨olds, arr', e2, k1, k2, k3, k4, k5, k6, k7⟩ := vec_cells hr hcs q1
             rw [q2] at k1; cases k1
             have hol : olds.length = n * sz' := by rw [Reps.length k4, hcl]
             have hpos : 0 < m * sz' := Nat.mul_pos (by omega) hsz0
             by_cases hfit : n + m <= cap
             · have hbd : (n + m) * sz' <= cap * sz' := Nat.mul_le_mul_right _ hfit
               rw [Nat.add_mul] at hbd
               obtain ⟨w', s1, s2, arr', s3, s4⟩ := run_storeCells (P := P) news 0 Γ.w b' (n * sz') arr e' q2 n2 (by rw [hnl]; omega)
               have hlen' : arr'.size = arr.size := by
                 have := congrArg List.length s4
                 simp [hnl] at this
                 omega
               have hnl2 : (cs ++ xs).length = n * sz' + m * sz' := by rw [List.length_append, hcl, hxl]
               have htk : arr'.toList.take (cs ++ xs).length = olds ++ news := by
                 rw [s4, hnl2, k3, hcl, Nat.add_zero, <- List.append_assoc]
                 exact List.take_left' (by simp [hnl]; omega)
               obtain ⟨u1, u2⟩ := updVec hr hcs q1 (cs' := cs ++ xs) (by simp) s2 q2 s3 hlen' (fun hx => by
                 simp only [RepOb]
                 refine ⟨k6, arr', e', s3, by rw [hnl2, hlen']; omega, ?_, ?_⟩
                 · rw [htk]; exact Reps.ext hx _ _ (Reps_append.2 ⟨_, _, rfl, k4, n1⟩)
                 · rw [htk]
                   intro v hv
                   rcases List.mem_append.1 hv with hv | hv
                   · exact k5 v hv
                   · exact n2 v hv)
               refine ⟨_, .slice (some ⟨b', 0, none⟩) (n + m) cap, rfl, u1, u2, ?_, .inl (append_call ho hcal hargs hats ?_)⟩
               · simp only [Rep]
                 refine ⟨_, _, rfl, hfit, hsz0, ⟨.vec (cs ++ xs), by simp [(List.getElem?_eq_some_iff.1 hcs).1], rfl⟩, fun ob cs' j1 j2 => ?_⟩
                 have : ob = .vec (cs ++ xs) := by simpa [(List.getElem?_eq_some_iff.1 hcs).1] using j1.symm
                 subst this
                 simp only [Ob.rows, Option.some.injEq] at j2; subst j2
                 exact ⟨by rw [hnl2, Nat.add_mul]; exact Nat.le_refl _, fun _ => ⟨b', arr', e', q1, rfl, s3, by rw [hlen']; exact q3⟩⟩
               · rw [hs]
                 refine run_fits (P := P) (o := o) hts htx hsz (n3 Γ.w) hfit (n4 Γ.w fun _ _ => rfl) ?_
                 simp only [add_none, Nat.zero_add]
                 exact s1
             · obtain ⟨newCap, rest, f1, f2, f3, f5, f7⟩ := fresh hs (show cap < n + m by omega) hroom k4 hcl (fun w' hw => by
                 have := run_loadCells (P := P) (w := w') (b := b') (o := 0) (vs := olds) (fun j v hj => by rw [hw, Nat.zero_add]; exact k7 j v hj)
                 rw [hol] at this
                 simp only [Builtin.firstCells, this])
               obtain ⟨j1, j2⟩ := moveVec d1 hcs (by simp [q1]) (cs' := cs ++ xs) (by rw [List.length_append, hxl]; omega) ((olds ++ news).toArray ++ rest) e
                 (fun hx => obok hx rfl (by simp [grow]) f5 k5)
               exact ⟨_, _, rfl, j1, d2.trans j2, grown rfl (by simp [(List.getElem?_eq_some_iff.1 hcs).1]) (by simp [bind]) f1 f2 f3 f5, .inl f7⟩
           · cases h
         · cases h
       · cases h
   · cases h
end
theorem c_cut (hr : Real fid Γ) {t e : TypeId} {n : Nat} {x : Operand} {p u : V} {lo hi : Option V} {lx hx : Option Operand} (ho : o.op = .slice t x lx hx none) (hp : Rep fid Γ p (ρ x))
   (ht : P.underlying t = some (.slice e)) (hn : sizeT P e = some n) (h1 : RepO fid Γ ρ lo lx) (h2 : RepO fid Γ ρ hi hx)
   (h : cutV Γ.σ n lo hi p = some (u, σ')) : Comes P fid Γ ρ o u σ' := by
 unfold cutV at h
 split at h
 · rename_i l len sz'
   split at h
   · rename_i cs hcs
     split at h
     · rename_i hh eh
       split at h
       · rename_i el
         split at h
         · rename_i hcond
           obtain ⟨rfl, hcl⟩ := hcond
           cases h
           simp only [Rep] at hp
           obtain ⟨ad, cap, hs, g2, g0, g3, g4⟩ := hp
           obtain ⟨b, arr, e', q1, rfl, q2, q3⟩ := (g4 _ _ hcs rfl).2 hcl
           obtain ⟨olds, arr', e2, k1, k2, k3, k4, k5, k6, k7⟩ := vec_cells hr hcs q1
           rw [q2] at k1; cases k1
           have a2 : hh <= len := by rcases bound_sound h2 eh with ⟨_, rfl⟩ | ⟨_, _, i', _, _, i3, i4, rfl⟩ <;> omega
           have hle : hh * sz' <= len * sz' := Nat.mul_le_mul_right _ a2
           have hcl2 : (cs.take (hh * sz')).length = hh * sz' := by simp; omega
           have htk : arr.toList.take (cs.take (hh * sz')).length = olds.take (hh * sz') := by
             rw [hcl2, k3, List.take_take]; congr 1; omega
           obtain ⟨u1, u2⟩ := cutVec hr hcs q1 (cs' := cs.take (hh * sz')) (fun hx => by
             simp only [RepOb]
             refine ⟨k6, arr, e', q2, by rw [hcl2]; omega, ?_, ?_⟩
             · rw [htk]; exact Reps.ext hx _ _ (Reps_take k4 _)
             · rw [htk]; intro v hv; exact k5 v (List.mem_of_mem_take hv))
           refine ⟨_, .slice (some ⟨b, 0, none⟩) hh cap, rfl, u1, u2, ?_, .inl ?_⟩
           · simp only [Rep]
             have hlast : (Γ.σ.set l .dead ++ [Ob.vec (cs.take (hh * sz'))])[Γ.σ.length]? = some (.vec (cs.take (hh * sz'))) := by
               rw [List.getElem?_append_right (by simp)]; simp
             refine ⟨_, _, rfl, by omega, g0, ⟨_, hlast, rfl⟩, fun ob cs' j1 j2 => ?_⟩
             rw [hlast] at j1; cases j1
             simp only [Ob.rows, Option.some.injEq] at j2; subst j2
             exact ⟨by rw [hcl2]; exact Nat.le_refl _, fun _ => ⟨b, arr, e', by simp [pass, q1], rfl, q2, q3⟩⟩
           · have hb := run_bounds (P := P) (isSl := true) h1 h2 g2 eh el Γ.w
             simp only [execOp, ho, Instr.sliceAt, Sem.run_bind, run_underlying ht, Result.andThen_ok, Instr.slice, hs, Option.map_none, hb, run_sizeOf hn, Sem.run_pure]
             by_cases hc : cap = 0
             · simp [hc]
             · simp [hc, add_none]
         · cases h
       · cases h
     · cases h
   · cases h
 · split at h
   · rename_i v hv
     cases h
     exact c_slice hr ho hp ht hn h1 h2 hv
   · cases h

/-! ## rows handed on -/
theorem frzV_sound (hr : Real fid Γ) {v : V} {x : Value} (h : Rep fid Γ v x) : ∃ Γ' : Ctx, Γ'.σ = (frzV Γ.σ v).2 /\ Γ'.w = Γ.w /\ Real fid Γ' /\ Step Γ Γ' /\ Rep fid Γ' (frzV Γ.σ v).1 x := by
 unfold frzV
 split
 · rename_i l n sz
   split
   · rename_i cs hcs
     split
     · rename_i hlen
       split
       · rename_i ds hds
         have hcd := allDat_eq hds
         simp only [Rep] at h
         obtain ⟨ad, cap, hs, g2, g0, g3, g4⟩ := h
         obtain ⟨b, arr, e', q1, rfl, q2, q3⟩ := (g4 _ _ hcs rfl).2 hlen
         obtain ⟨olds, arr', e2, k1, k2, k3, k4, k5, k6, k7⟩ := vec_cells hr hcs q1
         rw [q2] at k1; cases k1
         have hl : ds.length = cs.length := by rw [hcd]; simp
         have hD : RepDs Γ.F Γ.w ds olds := by rw [hcd] at k4; exact Reps_dat.1 k4
         obtain ⟨u1, u2⟩ := freezeVec hr hcs q1 hl (fun hx => by
           simp only [RepOb]
           refine ⟨by simp [grow], arr, e', q2, by omega, ?_, ?_⟩
           · have e : arr.toList.take ds.length = olds := by rw [hl, <- k3]
             rw [e]; exact RepDs.ext hx _ _ hD
           · have e : arr.toList.take ds.length = olds := by rw [hl, <- k3]
             rw [e]; exact k5)
         refine ⟨⟨Γ.σ.set l (.froz ds), Γ.μ, grow Γ.F b ds.length, Γ.w⟩, rfl, rfl, u1, u2, ?_⟩
         simp only [Rep, RepD]
         refine ⟨b, 0, cap, olds, hs, g2, by simp, RepDs.ext u2.ext _ _ hD, fun j v hj => ?_, fun _ => ?_, k5⟩
         · rw [Nat.zero_add]; exact k7 j v hj
         · simp [grow, hD.length]
       · exact ⟨Γ, rfl, rfl, hr, .refl _, h⟩
     · exact ⟨Γ, rfl, rfl, hr, .refl _, h⟩
   · rename_i ds hds
     split
     · rename_i hlen
       refine ⟨Γ, rfl, rfl, hr, .refl _, ?_⟩
       simp only [Rep] at h
       obtain ⟨ad, cap, hs, g2, g0, g3, g4⟩ := h
       obtain ⟨b, arr, e', q1, rfl, q2, q3⟩ := (g4 _ _ hds rfl).2 (by simpa using hlen)
       obtain ⟨vs, k1, k2⟩ := froz_row hr hds q1
       simp only [Rep, RepD]
       exact ⟨b, 0, cap, vs, hs, g2, by simp, k1, k2⟩
     · exact ⟨Γ, rfl, rfl, hr, .refl _, h⟩
   · exact ⟨Γ, rfl, rfl, hr, .refl _, h⟩
 · refine ⟨Γ, rfl, rfl, hr, .refl _, ?_⟩
   simp only [Rep, RepD] at h ⊢
   obtain ⟨b, cap, vs, m, h1, h2, h3, h4, _⟩ := h
   exact ⟨b, 0, cap, vs, h1, h2, by simp, h3, h4⟩
 · exact ⟨Γ, rfl, rfl, hr, .refl _, h⟩
end
theorem frzL_sound : ∀ {vs : List V} {Γ : Ctx} {xs : List Value}, Real fid Γ -> Reps fid Γ vs xs -> ∃ Γ' : Ctx, Γ'.σ = (frzL Γ.σ vs).2 /\ Γ'.w = Γ.w /\ Real fid Γ' /\ Step Γ Γ' /\ Reps fid Γ' (frzL Γ.σ vs).1 xs
 | [], Γ, xs, hr, h => ⟨Γ, rfl, rfl, hr, .refl _, by simpa only [frzL, Reps] using h⟩
 | v :: vs, Γ, xs, hr, h => by
   simp only [Reps] at h
   obtain ⟨y, ys, rfl, h1, h2⟩ := h
   obtain ⟨Γ1, a1, a2, a3, a4, a5⟩ := frzV_sound hr h1
   obtain ⟨Γ2, b1, b2, b3, b4, b5⟩ := frzL_sound (vs := vs) a3 (Reps.ext a4.ext _ _ h2)
   rw [a1] at b1 b5
   exact ⟨Γ2, b1, b2.trans a2, b3, a4.trans b4, _, _, rfl, Rep.ext b4.ext _ _ a5, b5⟩
theorem frzT_sound {Γ : Ctx} {v : V} {x : Value} (hr : Real fid Γ) (h : Rep fid Γ v x) : ∃ Γ' : Ctx, Γ'.σ = (frzT Γ.σ v).2 /\ Γ'.w = Γ.w /\ Real fid Γ' /\ Step Γ Γ' /\ Rep fid Γ' (frzT Γ.σ v).1 x := by
 unfold frzT
 split
 · simp only [Rep] at h
   obtain ⟨vs, rfl, h⟩ := h
   obtain ⟨Γ1, a1, a2, a3, a4, a5⟩ := frzL_sound hr h
   exact ⟨Γ1, a1, a2, a3, a4, Rep_mkAgg a5⟩
 · exact frzV_sound hr h
theorem frzTL_sound : ∀ {vs : List V} {Γ : Ctx} {xs : List Value}, Real fid Γ -> Reps fid Γ vs xs -> ∃ Γ' : Ctx, Γ'.σ = (frzTL Γ.σ vs).2 /\ Γ'.w = Γ.w /\ Real fid Γ' /\ Step Γ Γ' /\ Reps fid Γ' (frzTL Γ.σ vs).1 xs
 | [], Γ, xs, hr, h => ⟨Γ, rfl, rfl, hr, .refl _, by simpa only [frzTL, Reps] using h⟩
 | v :: vs, Γ, xs, hr, h => by
   simp only [Reps] at h
   obtain ⟨y, ys, rfl, h1, h2⟩ := h
   obtain ⟨Γ1, a1, a2, a3, a4, a5⟩ := frzT_sound hr h1
   obtain ⟨Γ2, b1, b2, b3, b4, b5⟩ := frzTL_sound (vs := vs) a3 (Reps.ext a4.ext _ _ h2)
   rw [a1] at b1 b5
   exact ⟨Γ2, b1, b2.trans a2, b3, a4.trans b4, _, _, rfl, Rep.ext b4.ext _ _ a5, b5⟩
end Go.Pm
end SJ2
section SJ3
namespace Go.Pm
theorem updVecT {fid : Fid} {Γ : Ctx} (hr : Real fid Γ) {t l b : Nat} {cs cs' : List V} {w' : World} {arr arr' : Array Value} {e : TypeId} (ho : Γ.σ[l]? = some (.vecT t cs)) (hm : Γ.μ l = some b) (hl : cs.length <= cs'.length)
   (hw : WOnly b Γ.w w') (ha : Γ.w.heap[b]? = some (.cells arr e (0, 0))) (ha' : w'.heap[b]? = some (.cells arr' e (0, 0))) (hs : arr'.size = arr.size)
   (hn : Ext Γ ⟨Γ.σ.set l (.vecT t cs'), Γ.μ, Γ.F, w'⟩ -> RepOb fid ⟨Γ.σ.set l (.vecT t cs'), Γ.μ, Γ.F, w'⟩ b (.vecT t cs')) :
   Real fid ⟨Γ.σ.set l (.vecT t cs'), Γ.μ, Γ.F, w'⟩ /\ Step Γ ⟨Γ.σ.set l (.vecT t cs'), Γ.μ, Γ.F, w'⟩ := by
 have hF : Γ.F b = 0 := by have := hr.obs l _ b ho hm; simp only [RepOb] at this; exact this.1
 have hlt : l < Γ.σ.length := (List.getElem?_eq_some_iff.1 ho).1
 have hext : Ext Γ ⟨Γ.σ.set l (.vecT t cs'), Γ.μ, Γ.F, w'⟩ := by
   refine ⟨Nat.le_of_eq hw.size.symm, hw.os, hw.tape, hw.output, fun _ => Nat.le_refl _, fun k i v hi hv => ?_, fun k arr e hk ha => ⟨arr, ?_, rfl⟩, by simp, fun j o hj hjt => ⟨⟨o, ?_, hjt⟩, fun _ h => h⟩, fun j m hj => ⟨m, ?_, Nat.le_refl _, fun h => h, fun _ _ h => h⟩, fun j o hj hjt => ?_⟩
   · have : k ≠ b := fun e => by subst e; omega
     rw [cell?_of_block (hw.other k this)]; exact hv
   · have : k ≠ b := fun e => by subst e; omega
     rw [hw.other k this]; exact ha
   · have e : l ≠ j := fun e => by subst e; rw [ho] at hj; cases hj; cases hjt
     rw [List.getElem?_set_ne e]; exact hj
   · have e : l ≠ j := fun e => by subst e; rw [ho] at hj; cases hj
     rw [List.getElem?_set_ne e]; exact hj
   · by_cases e : l = j
     · subst e
       rw [ho] at hj; cases hj
       refine ⟨.vecT t cs', by simp [hlt], rfl, fun c hc => ?_⟩
       simp only [Ob.rows, Option.some.injEq] at hc; subst hc
       refine ⟨cs, rfl, hl, fun _ k hk => ⟨hk, fun a u h => ?_⟩⟩
       rw [hm] at hk; cases hk
       rw [ha] at h; cases h
       exact ⟨arr', ha', hs⟩
     · refine ⟨o, by rw [List.getElem?_set_ne e]; exact hj, hjt, fun c hc => ⟨c, hc, Nat.le_refl _, fun _ k hk => ⟨hk, fun a u h => ⟨a, ?_, rfl⟩⟩⟩⟩
       have : k ≠ b := fun e' => by subst e'; exact e (hr.inj _ _ _ hm hk)
       rw [hw.other k this]; exact h
 refine ⟨⟨fun j o k hj hk => ?_, fun j k hk => ?_, hr.inj, fun k hk => ?_, Glb.ext hext hr.glb⟩, hext, ⟨fun k hk hno => ⟨hw.other k fun e => by subst e; exact hno l hm, rfl⟩, fun j k hj _ => ⟨j, hj⟩⟩, fun _ _ h => h⟩
 · by_cases e : l = j
   · subst e
     simp only [List.getElem?_set_self hlt, Option.some.injEq] at hj
     subst hj
     rw [hm] at hk; cases hk
     exact hn hext
   · rw [List.getElem?_set_ne e] at hj
     have hb : k ≠ b := fun e' => by subst e'; exact e (hr.inj _ _ _ hm hk)
     exact RepOb.ext hext (hw.other k hb) rfl o (hr.obs j o k hj hk)
 · have := hr.dom j k hk
   exact ⟨by simpa using this.1, by rw [hw.size]; exact this.2⟩
 · obtain ⟨arr, e, fz, h1, h2⟩ := hr.imm k hk
   have : k ≠ b := fun e => by subst e; simp only at hk; omega
   exact ⟨arr, e, fz, by rw [hw.other k this]; exact h1, h2⟩


theorem moveVecT {fid : Fid} {Γ : Ctx} (hr : Real fid Γ) {t l : Nat} {cs cs' : List V} (ho : Γ.σ[l]? = some (.vecT t cs)) (hsome : (Γ.μ l).isSome = true) (hl : cs.length < cs'.length) (arr : Array Value) (e : TypeId)
   (hn : Ext Γ ⟨Γ.σ.set l (.vecT t cs'), bind Γ.μ l Γ.w.heap.size, grow Γ.F Γ.w.heap.size 0, Γ.w.alloc (.cells arr e)⟩ -> RepOb fid ⟨Γ.σ.set l (.vecT t cs'), bind Γ.μ l Γ.w.heap.size, grow Γ.F Γ.w.heap.size 0, Γ.w.alloc (.cells arr e)⟩ Γ.w.heap.size (.vecT t cs')) :
   Real fid ⟨Γ.σ.set l (.vecT t cs'), bind Γ.μ l Γ.w.heap.size, grow Γ.F Γ.w.heap.size 0, Γ.w.alloc (.cells arr e)⟩ /\
   Step Γ ⟨Γ.σ.set l (.vecT t cs'), bind Γ.μ l Γ.w.heap.size, grow Γ.F Γ.w.heap.size 0, Γ.w.alloc (.cells arr e)⟩ := by
 have hlt := (List.getElem?_eq_some_iff.1 ho).1
 have hext : Ext Γ ⟨Γ.σ.set l (.vecT t cs'), bind Γ.μ l Γ.w.heap.size, grow Γ.F Γ.w.heap.size 0, Γ.w.alloc (.cells arr e)⟩ := by
   have hal : ∀ b, b < Γ.w.heap.size -> (Γ.w.alloc (.cells arr e)).heap[b]? = Γ.w.heap[b]? := fun b hb => heap_alloc_lt _ _ hb
   refine ⟨by simp, rfl, rfl, rfl, fun b => ?_, fun b i v hi hv => ?_, fun b a u hb ha => ⟨a, ?_, rfl⟩, by simp, fun j o hj hjt => ?_, fun j m hj => ?_, fun j o hj hjt => ?_⟩
   · simp only [grow]; split
     · rename_i e; subst e; rw [hr.F_size]; exact Nat.le_refl _
     · exact Nat.le_refl _
   · rw [cell?_of_block (hal b (hr.F_lt (by omega)))]; exact hv
   · rw [hal b (hr.F_lt hb)]; exact ha
   · have e : l ≠ j := fun e => by subst e; rw [ho] at hj; cases hj; cases hjt
     exact ⟨⟨o, by rw [List.getElem?_set_ne e]; exact hj, hjt⟩, fun b hb => by simp only [bind]; rw [if_neg (Ne.symm e)]; exact hb⟩
   · have e : l ≠ j := fun e => by subst e; rw [ho] at hj; cases hj
     exact ⟨m, by rw [List.getElem?_set_ne e]; exact hj, Nat.le_refl _, fun hs => by simp only [bind]; rw [if_neg (Ne.symm e)]; exact hs, fun _ b hb => by simp only [bind]; rw [if_neg (Ne.symm e)]; exact hb⟩
   · by_cases e : l = j
     · subst e
       rw [ho] at hj; cases hj
       refine ⟨.vecT t cs', by simp [hlt], rfl, fun c hc => ?_⟩
       simp only [Ob.rows, Option.some.injEq] at hc; subst hc
       exact ⟨cs, rfl, Nat.le_of_lt hl, fun h => by omega⟩
     · refine ⟨o, by rw [List.getElem?_set_ne e]; exact hj, hjt, fun c hc => ⟨c, hc, Nat.le_refl _, fun _ k hk => ⟨by simp only [bind]; rw [if_neg (Ne.symm e)]; exact hk, fun a u h => ⟨a, ?_, rfl⟩⟩⟩⟩
       show (Γ.w.alloc (.cells arr _)).heap[k]? = _
       rw [heap_alloc_lt _ _ (hr.dom j k hk).2]; exact h
 refine ⟨⟨fun j ob' b h1 h2 => ?_, fun j b h => ?_, fun j j' b h h' => ?_, fun b hb => ?_, Glb.ext hext hr.glb⟩, hext, ⟨fun b hb hn => ⟨heap_alloc_lt _ _ hb, ?_⟩, fun j b h hb => ?_⟩, fun j _ h => by simp only [bind]; rw [if_neg (fun e => by subst e; rw [h] at hsome; cases hsome)]; exact h⟩
 · simp only [bind] at h2
   split at h2
   · rename_i e'; subst e'; cases h2
     simp only [List.getElem?_set_self hlt, Option.some.injEq] at h1
     subst h1
     exact hn hext
   · rename_i e'
     have hd := hr.dom j b h2
     simp only at h1
     rw [List.getElem?_set_ne (Ne.symm e')] at h1
     exact RepOb.ext hext (heap_alloc_lt _ _ hd.2) (by simp only [grow]; rw [if_neg (by omega)]) ob' (hr.obs j ob' b h1 h2)
 · simp only [bind] at h
   split at h
   · rename_i e'; subst e'; cases h; simp [hlt]
   · have := hr.dom j b h
     exact ⟨by simpa using this.1, by simp; omega⟩
 · simp only [bind] at h h'
   split at h <;> split at h'
   · rename_i e e'; exact e.trans e'.symm
   · cases h; have := (hr.dom j' _ h').2; omega
   · cases h'; have := (hr.dom j _ h).2; omega
   · exact hr.inj j j' b h h'
 · simp only [grow] at hb ⊢
   split at hb
   · omega
   · rename_i e'
     obtain ⟨a, u, fz, h1, h2⟩ := hr.imm b hb
     exact ⟨a, u, fz, by rw [heap_alloc_lt _ _ (heap_lt h1)]; exact h1, by simpa [e'] using h2⟩
 · simp only [grow]; rw [if_neg (by omega)]
 · simp only [bind] at h
   split at h
   · cases h; omega
   · exact ⟨j, h⟩

variable {P : Program} {ids : Ids} {fid : Fid} {N : Nat}
section
variable {Γ : Ctx} {fr : Fr} {ρ : Operand -> Value} {o : Oper} {v : V} {σ' : S}
theorem vecT_cells (hr : Real fid Γ) {t l b : Nat} {cs : List V} (ho : Γ.σ[l]? = some (.vecT t cs)) (hm : Γ.μ l = some b) :
   ∃ vs arr, Γ.w.heap[b]? = some (.cells arr (fid.ty t) (0, 0)) /\ cs.length <= arr.size /\ vs = arr.toList.take cs.length /\ Reps fid Γ cs vs /\ (∀ v ∈ vs, v.oneCell' = true) /\ Γ.F b = 0 /\ ∀ j v, vs[j]? = some v -> Γ.w.cell? ⟨b, j, none⟩ = some v := by
 have := hr.obs l _ b ho hm
 simp only [RepOb] at this
 obtain ⟨h1, arr, h2, h3, h4, h5⟩ := this
 refine ⟨_, arr, h2, h3, rfl, h4, h5, h1, fun j x hj => ?_⟩
 simp only [World.cell?, h2]
 simpa using take_get hj
section
variable {ts tx e ex : TypeId} {s x : Operand} {c : Call} {sz bytes : Nat} {z : Value}
theorem c_appendT (hr : Real fid Γ) (ho : o.op = .call c) (hcal : c.callee = .builtin .append) (hargs : c.args.toList = [s, x]) (hats : c.argTypes.toList = [ts, tx])
   (hts : P.underlying ts = some (.slice e)) (htx : (∃ ex, P.underlying tx = some (.slice ex)) \/ P.underlying tx = some .string) (hsz : sizeT P e = some sz) (hby : bytesT P e = some bytes) (hz : zeroT P e = some z) (hzn : z.cells.size = sz) {t : Nat} (hty : fid.ty t = e)
   {a b u : V} (ha : Rep fid Γ a (ρ s)) (hb : Rep fid Γ b (ρ x)) (h : appendT Γ.σ t sz bytes a b = some (u, σ')) : Comes P fid Γ ρ o u σ' := by
 unfold appendT at h
 split at h
 · cases h
 · rename_i xs m hsrc
   split at h
   · rename_i hcond
     obtain ⟨hxl, hsz0, hone⟩ := hcond
     obtain ⟨news, n1, n2, n3, n4⟩ := srcO_sound (P := P) hr hb hsrc hxl hone
     have hnl : news.length = m * sz := by rw [Reps.length n1, hxl]
     split at h
     · rename_i hm
       subst hm
       have hnews : news = [] := by
         apply List.eq_nil_of_length_eq_zero; rw [hnl]; simp
       have fin : ∀ base n cap, ρ s = .slice base n cap -> n <= cap -> (u = a /\ σ' = Γ.σ) -> Comes P fid Γ ρ o u σ' := fun base n cap hs hle hu => by
         obtain ⟨rfl, rfl⟩ := hu
         refine .pure hr (x := ρ s) ?_ ha
         refine append_call ho hcal hargs hats ?_
         rw [hs]
         have := run_fits (P := P) (o := o) hts htx hsz (base := base) (n3 Γ.w) (show n + 0 <= cap by omega) (n4 Γ.w fun _ _ => rfl) (w' := Γ.w) (by rw [hnews]; cases base <;> simp [storeCells])
         simpa using this
       split at h
       · cases h
         exact fin _ _ _ (Rep_lit ha).1 (Nat.le_refl _) ⟨rfl, rfl⟩
       · cases h
         have ha' := ha
         simp only [Rep, RepD] at ha'
         obtain ⟨b', o', cap, vs, hs, h2, _⟩ := ha'
         exact fin _ _ _ hs h2 ⟨rfl, rfl⟩
       · cases h
         have ha' := ha
         simp only [Rep] at ha'
         obtain ⟨b', cap, hs, h2, _⟩ := ha'
         exact fin _ _ _ hs h2 ⟨rfl, rfl⟩
       · cases h
     · rename_i hm
       have fresh : ∀ {olds : List Value} {cs : List V} {base : Option Addr} {n cap : Nat}, ρ s = .slice base n cap -> cap < n + m -> roomFor (n + m) bytes = true -> Reps fid Γ cs olds -> cs.length = n * sz ->
           (∀ w' : World, (∀ b i, w'.cell? ⟨b, i, none⟩ = Γ.w.cell? ⟨b, i, none⟩) -> (Builtin.firstCells sz n (.slice base n cap)).run P w' = .ok olds.toArray w') ->
           ∃ (newCap : Nat) (rest : Array Value), n + m <= newCap /\ (n + m) * sz + rest.size = newCap * sz /\ (cs ++ xs).length = (n + m) * sz /\ Reps fid Γ (cs ++ xs) (olds ++ news) /\
             (execOp ρ o).run P Γ.w = .ok (.value (.slice (some ⟨Γ.w.heap.size, 0, none⟩) (n + m) newCap)) (Γ.w.drew.alloc (.cells ((olds ++ news).toArray ++ rest) e)) := by
         intro olds cs base n cap hs hlt hroom hd hcl hold
         obtain ⟨newCap, rest, r1, r2, r3⟩ := run_grows (P := P) (o := o) hts htx hsz hby hz n3 hlt hroom hold n4
         refine ⟨newCap, rest, r1, ?_, ?_, Reps_append.2 ⟨_, _, rfl, hd, n1⟩, append_call ho hcal hargs hats (by rw [hs]; exact r3)⟩
         · rw [r2, hzn, <- Nat.add_mul]; congr 1; omega
         · rw [List.length_append, hcl, hxl, Nat.add_mul]
       obtain ⟨d1, d2⟩ := drewStep hr
       -- what a grown row's object and value mean
       have obok : ∀ {Γ' : Ctx} {olds : List Value} {cs : List V} {rest : Array Value}, Ext ⟨Γ.σ, Γ.μ, Γ.F, Γ.w.drew⟩ Γ' -> Γ'.w = Γ.w.drew.alloc (.cells ((olds ++ news).toArray ++ rest) e) -> Γ'.F Γ.w.heap.size = 0 ->
           Reps fid Γ (cs ++ xs) (olds ++ news) -> (∀ v ∈ olds, v.oneCell' = true) -> RepOb fid Γ' Γ.w.heap.size (.vecT t (cs ++ xs)) := by
         intro Γ' olds cs rest hx hw hF g1 g2
         have hlen := Reps.length g1
         have htk : ((olds ++ news).toArray ++ rest).toList.take (cs ++ xs).length = olds ++ news := by
           rw [<- hlen, Array.toList_append]; exact List.take_left' rfl
         simp only [RepOb]
         refine ⟨hF, _, by rw [hw, hty]; exact heap_alloc_new Γ.w.drew _, by rw [<- hlen]; simp, ?_, ?_⟩
         · rw [htk]; exact Reps.ext hx _ _ (Reps.ext d2.ext _ _ g1)
         · rw [htk]
           intro v hv
           rcases List.mem_append.1 hv with hv | hv
           · exact g2 v hv
           · exact n2 v hv
       have grown : ∀ {Γ' : Ctx} {olds : List Value} {cs : List V} {rest : Array Value} {n newCap l : Nat}, Γ'.w = Γ.w.drew.alloc (.cells ((olds ++ news).toArray ++ rest) e) ->
           Γ'.σ[l]? = some (.vecT t (cs ++ xs)) -> Γ'.μ l = some Γ.w.heap.size -> n + m <= newCap -> (n + m) * sz + rest.size = newCap * sz -> (cs ++ xs).length = (n + m) * sz -> Reps fid Γ (cs ++ xs) (olds ++ news) ->
           Rep fid Γ' (.own l (n + m) sz) (.slice (some ⟨Γ.w.heap.size, 0, none⟩) (n + m) newCap) := by
         intro Γ' olds cs rest n newCap l hw hσ hμ g1 g2 g3 g5
         have hlen := Reps.length g5
         simp only [Rep]
         refine ⟨_, _, rfl, g1, hsz0, ⟨_, hσ, rfl⟩, fun ob cs' k1 k2 => ?_⟩
         rw [hσ] at k1; cases k1
         simp only [Ob.rows, Option.some.injEq] at k2; subst k2
         refine ⟨by rw [g3]; exact Nat.le_refl _, fun _ => ⟨Γ.w.heap.size, _, e, hμ, rfl, by rw [hw]; exact heap_alloc_new Γ.w.drew _, ?_⟩⟩
         simp only [Array.size_append, List.size_toArray, hlen, g3]
         omega
       split at h
       · split at h
         · rename_i hroom
           cases h
           obtain ⟨newCap, rest, f1, f2, f3, f5, f7⟩ := fresh (olds := []) (cs := []) (Rep_lit ha).1 (show 0 < 0 + m by omega) (by simpa using hroom) (by simp [Reps]) (by simp)
             (fun w' _ => by simp [Builtin.firstCells])
           obtain ⟨k1, k2⟩ := allocOb d1 (.vecT t xs) (.cells (([] ++ news).toArray ++ rest) e) 0
             (fun Γ' e' hx => by
               have := obok (cs := []) (olds := []) (rest := rest) hx (by subst e'; rfl) (by subst e'; simp [grow]) f5 (by simp)
               simpa using this) (fun h => absurd h (Nat.lt_irrefl _))
           refine ⟨_, _, rfl, k1, d2.trans k2, ?_, .inl f7⟩
           have := grown (cs := []) (olds := []) (rest := rest) (n := 0) (newCap := newCap) (l := Γ.σ.length) (Γ' := ⟨Γ.σ ++ [.vecT t xs], bind Γ.μ Γ.σ.length Γ.w.drew.heap.size, grow Γ.F Γ.w.drew.heap.size 0, Γ.w.drew.alloc (.cells (([] ++ news).toArray ++ rest) e)⟩) rfl (by simp) (by simp [bind]) f1 f2 f3 f5
           simpa using this
         · cases h
       · rename_i l n sz'
         split at h
         · rename_i t' cs hcs
           split at h
           · rename_i hcond
             obtain ⟨hroom, hcl, rfl, htt⟩ := hcond; subst t'
             cases h
             have ha' := ha
             simp only [Rep] at ha'
             obtain ⟨ad, cap, hs, h2, h0, h3, h4⟩ := ha'
             obtain ⟨b', arr, e', q1, rfl, q2, q3⟩ := (h4 _ _ hcs rfl).2 hcl
             obtain ⟨olds, arr', k1, k2, k3, k4, k5, k6, k7⟩ := vecT_cells hr hcs q1
             rw [q2] at k1; cases k1
             have hol : olds.length = n * sz' := by rw [Reps.length k4, hcl]
             have hpos : 0 < m * sz' := Nat.mul_pos (by omega) hsz0
             by_cases hfit : n + m <= cap
             · have hbd : (n + m) * sz' <= cap * sz' := Nat.mul_le_mul_right _ hfit
               rw [Nat.add_mul] at hbd
               obtain ⟨w', s1, s2, arr', s3, s4⟩ := run_storeCells (P := P) news 0 Γ.w b' (n * sz') arr _ q2 n2 (by rw [hnl]; omega)
               have hlen' : arr'.size = arr.size := by
                 have := congrArg List.length s4
                 simp [hnl] at this
                 omega
               have hnl2 : (cs ++ xs).length = n * sz' + m * sz' := by rw [List.length_append, hcl, hxl]
               have htk : arr'.toList.take (cs ++ xs).length = olds ++ news := by
                 rw [s4, hnl2, k3, hcl, Nat.add_zero, <- List.append_assoc]
                 exact List.take_left' (by simp [hnl]; omega)
               obtain ⟨u1, u2⟩ := updVecT hr hcs q1 (cs' := cs ++ xs) (by simp) s2 q2 s3 hlen' (fun hx => by
                 simp only [RepOb]
                 refine ⟨k6, arr', s3, by rw [hnl2, hlen']; omega, ?_, ?_⟩
                 · rw [htk]; exact Reps.ext hx _ _ (Reps_append.2 ⟨_, _, rfl, k4, n1⟩)
                 · rw [htk]
                   intro v hv
                   rcases List.mem_append.1 hv with hv | hv
                   · exact k5 v hv
                   · exact n2 v hv)
               refine ⟨_, .slice (some ⟨b', 0, none⟩) (n + m) cap, rfl, u1, u2, ?_, .inl (append_call ho hcal hargs hats ?_)⟩
               · simp only [Rep]
                 refine ⟨_, _, rfl, hfit, hsz0, ⟨.vecT t (cs ++ xs), by simp [(List.getElem?_eq_some_iff.1 hcs).1], rfl⟩, fun ob cs' j1 j2 => ?_⟩
                 have : ob = .vecT t (cs ++ xs) := by simpa [(List.getElem?_eq_some_iff.1 hcs).1] using j1.symm
                 subst this
                 simp only [Ob.rows, Option.some.injEq] at j2; subst j2
                 exact ⟨by rw [hnl2, Nat.add_mul]; exact Nat.le_refl _, fun _ => ⟨b', arr', _, q1, rfl, s3, by rw [hlen']; exact q3⟩⟩
               · rw [hs]
                 refine run_fits (P := P) (o := o) hts htx hsz (n3 Γ.w) hfit (n4 Γ.w fun _ _ => rfl) ?_
                 simp only [add_none, Nat.zero_add]
                 exact s1
             · obtain ⟨newCap, rest, f1, f2, f3, f5, f7⟩ := fresh hs (show cap < n + m by omega) hroom k4 hcl (fun w' hw => by
                 have := run_loadCells (P := P) (w := w') (b := b') (o := 0) (vs := olds) (fun j v hj => by rw [hw, Nat.zero_add]; exact k7 j v hj)
                 rw [hol] at this
                 simp only [Builtin.firstCells, this])
               obtain ⟨j1, j2⟩ := moveVecT d1 hcs (by simp [q1]) (cs' := cs ++ xs) (by rw [List.length_append, hxl]; omega) ((olds ++ news).toArray ++ rest) e
                 (fun hx => obok hx rfl (by simp [grow]) f5 k5)
               exact ⟨_, _, rfl, j1, d2.trans j2, grown rfl (by simp [(List.getElem?_eq_some_iff.1 hcs).1]) (by simp [bind]) f1 f2 f3 f5, .inl f7⟩
           · cases h
         · cases h
       · cases h
   · cases h
end

theorem toBytes_vals {F : Nat -> Nat} : ∀ {vs : List V} {xs : List Value} {bs : List UInt8}, toBytes vs = some bs -> Reps fid Γ vs xs -> xs = bs.map fun b => Value.int .u8 b.toNat
 | [], xs, bs, h, hr => by
   cases h
   simp only [Reps] at hr
   simp [hr]
 | v :: vs, xs, bs, h, hr => by
   unfold toBytes at h
   split at h
   · rename_i h0; cases h0
   · rename_i n r h0
     cases h0
     split at h
     · rename_i hn
       split at h
       · rename_i cs hcs
         cases h
         simp only [Reps] at hr
         obtain ⟨y, ys, rfl, h1, h2⟩ := hr
         rw [toBytes_vals (F := F) hcs h2, (Rep_lit h1).1]
         simp only [List.map_cons]
         congr 2
         have : (UInt8.ofNat n.toNat).toNat = n.toNat := by
           rw [UInt8.toNat_ofNat']
           exact Nat.mod_eq_of_lt (by omega)
         rw [this]; omega
       · cases h
     · cases h
   · cases h
theorem toBytes_length : ∀ {vs : List V} {bs : List UInt8}, toBytes vs = some bs -> bs.length = vs.length
 | [], bs, h => by cases h; rfl
 | v :: vs, bs, h => by
   unfold toBytes at h
   split at h
   · rename_i h0; cases h0
   · rename_i n r h0
     cases h0
     split at h
     · split at h
       · rename_i cs hcs
         cases h
         simp [toBytes_length hcs]
       · cases h
     · cases h
   · cases h
theorem foldl_push (l : List UInt8) : ∀ r : ByteArray, (l.map fun b => (b.toNat : Int)).foldl (fun r n => r.push (UInt8.ofNat n.toNat)) r = ⟨r.data ++ l.toArray⟩ := by
 induction l with
 | nil => intro r; simp
 | cons b l ih =>
   intro r
   simp only [List.map_cons, List.foldl_cons, ih]
   apply ByteArray.ext
   simp [ByteArray.push]
theorem c_bstr (hr : Real fid Γ) {s t e : TypeId} {x : Operand} {p u : V} (ho : o.op = .convert s t x) (hp : Rep fid Γ p (ρ x)) (hs : P.underlying s = some (.slice e)) (he : P.underlying e = some (.int .u8)) (ht : P.underlying t = some .string)
   (h : bstrV Γ.σ p = some u) : Comes P fid Γ ρ o u Γ.σ := by
 unfold bstrV at h
 split at h
 · rename_i xs m hsrc
   split at h
   · rename_i hcond
     obtain ⟨hl, hns⟩ := hcond
     split at h
     · rename_i bs hbs
       cases h
       rcases srcO_row hr hp hsrc with ⟨a, hx, rfl, rfl⟩ | ⟨s', rfl, _, _, _⟩ | ⟨b, off, cap, vs, hx, hv, hc⟩
       · cases hbs
         refine .pure hr (x := .string ⟨#[]⟩) ?_ (by simp [Rep, RepD, noAgg])
         simp only [execOp, ho, hx]
         rw [Sem.run_bind, run_convert_bytes_string Γ.w s t e a 0 0 hs he ht]
         cases a with
         | none => simp [Conv.bytesToString]; rfl
         | some a =>
           rw [run_bytesToString Γ.w a 0 0 [] (by simp [loadCells, loadCellsFrom])]
           simp; rfl
       · simp [V.isStr] at hns
       · have hvs := toBytes_vals (F := Γ.F) hbs hv
         have hlen : vs.length = m := by rw [Reps.length hv, hl]
         refine .pure hr (x := .string ⟨bs.toArray⟩) ?_ (by simp [Rep, RepD, noAgg])
         simp only [execOp, ho, hx]
         rw [Sem.run_bind, run_convert_bytes_string Γ.w s t e _ m cap hs he ht]
         have hload := run_loadCells (P := P) (w := Γ.w) (b := b) (o := off) (vs := vs) hc
         rw [hlen] at hload
         rw [run_bytesToString Γ.w ⟨b, off, none⟩ m cap (bs.map fun b => (b.toNat : Int)) (by rw [hload, hvs]; simp), foldl_push]
         simp
     · cases h
   · cases h
 · cases h
theorem c_sliceA (hr : Real fid Γ) {t e : TypeId} {len n : Nat} {x : Operand} {p u : V} {lo hi : Option V} {lx hx : Option Operand} (ho : o.op = .slice t x lx hx none) (hp : Rep fid Γ p (ρ x))
   (ht : P.underlying t = some (.array len e)) (hn : sizeT P e = some n) (h1 : RepO fid Γ ρ lo lx) (h2 : RepO fid Γ ρ hi hx)
   (h : sliceAV len n lo hi p = some u) : Comes P fid Γ ρ o u Γ.σ := by
 unfold sliceAV at h
 split at h
 · rename_i l off
   split at h
   · rename_i hh eh
     split at h
     · rename_i k el
       cases h
       simp only [Rep] at hp
       obtain ⟨b, hm, hx', hfix⟩ := hp
       have hb := run_bounds (P := P) (isSl := false) h1 h2 (Nat.le_refl len) eh el Γ.w
       have a1 : k <= hh := by rcases bound_sound h1 el with ⟨_, rfl⟩ | ⟨_, _, i', _, _, i3, i4, rfl⟩ <;> omega
       have a2 : hh <= len := by rcases bound_sound h2 eh with ⟨_, rfl⟩ | ⟨_, _, i', _, _, i3, i4, rfl⟩ <;> omega
       refine .pure hr (x := .slice (some ⟨b, if len = k then off else off + k * n, none⟩) (hh - k) (len - k)) ?_ ?_
       · simp only [execOp, ho, Instr.sliceAt, Sem.run_bind, run_underlying ht, Result.andThen_ok, Instr.sureAddr, hx', Option.map_none, hb, run_sizeOf hn, Sem.run_pure]
         by_cases hc : len = k
         · simp [hc]
         · simp [hc, add_none]
       · simp only [Rep]
         exact ⟨b, hm, rfl, by omega, hfix⟩
     · cases h
   · cases h
 · cases h
theorem c_boxT (hr : Real fid Γ) {t : TypeId} {k : Nat} {x : Operand} {u : V} (ho : o.op = .box t x) (hk : fid.ty k = t) (hu : Rep fid Γ u (ρ x)) : Comes P fid Γ ρ o (.ptr Γ.σ.length 0) (Γ.σ ++ [.cellsT k u.cells]) := by
 obtain ⟨h1, h2⟩ := allocOb hr (.cellsT k u.cells) (.cells (ρ x).cells t) 0
   (fun Γ' e hx => by
     subst e
     simp only [RepOb, grow, if_pos]
     exact ⟨trivial, (ρ x).cells, by rw [hk]; exact heap_alloc_new _ _, Reps.ext hx _ _ (Rep_cells hu)⟩) (fun h => absurd h (Nat.lt_irrefl _))
 refine ⟨_, .pointer (some ⟨Γ.w.heap.size, 0, none⟩), rfl, h1, h2, ?_, .inl ?_⟩
 · simp only [Rep]
   exact ⟨Γ.w.heap.size, by simp [bind], rfl, ⟨.cellsT k u.cells, by simp, rfl⟩⟩
 · simp only [execOp, ho, Instr.box, newVar, newRow]
   simp
theorem shape_cells {w : World} {b : Nat} {arr : Array Value} {e : TypeId} {fz : Nat × Nat} (h : w.heap[b]? = some (.cells arr e fz)) : w.shape? b = some (e, arr.size) := by
 simp [World.shape?, h]
theorem c_up (hr : Real fid Γ) {s t e : TypeId} {x : Operand} {l off k : Nat} {cs : List V} (ho : o.op = .convert s t x) (hs : P.underlying s = some (.pointer e)) (ht : P.underlying t = some .unsafePointer) {n : Nat} (hn : sizeT P e = some n) (hn0 : n ≠ 0)
   (hp : Rep fid Γ (.ptr l off) (ρ x)) (hσ : Γ.σ[l]? = some (.cellsT k cs)) (hlt : off < cs.length) : Comes P fid Γ ρ o (.ptr l off) Γ.σ := by
 have hp' := hp
 simp only [Rep] at hp'
 obtain ⟨b, hm, hx, _⟩ := hp'
 obtain ⟨_, arr, h2, h3⟩ := hr.obs l _ b hσ hm
 have hl := Reps.length h3
 have hsh := shape_cells h2
 refine .pure hr (x := ρ x) ?_ hp
 simp only [execOp, ho, hx, Sem.run_bind, convert, run_underlying hs, run_underlying ht, Result.andThen_ok, Conv.unsafePointer, Conv.seenAt, viewAt, run_shape, hsh, Option.isSome_some, if_true, Sem.run_pure, cellsIn]
 have h1 : ¬ arr.size <= off := by rw [Array.length_toList] at hl; omega
 simp [run_sizeOf hn, hn0, h1]
theorem downT_mem {u : TypeId} {k n : Nat} : ∀ {ts : List TypeId}, (downT P ids u ts).contains (k, n) = true -> ∃ t, ids.ty t = some k /\ n = P.cellsOf t /\ liesAt P P.depth t (P.cellsOf t / P.cellsOf t) 0 u 1 = true
 | [], h => by simp [downT] at h
 | t :: ts, h => by
   simp only [downT] at h
   split at h
   · rename_i m hm
     split at h
     · rename_i hl
       simp only [List.contains_cons, Bool.or_eq_true, beq_iff_eq, Prod.mk.injEq] at h
       rcases h with ⟨rfl, rfl⟩ | h
       · exact ⟨t, hm, rfl, hl⟩
       · exact downT_mem h
     · exact downT_mem h
   · exact downT_mem h
theorem c_down (hid : Ties P ids fid) (hr : Real fid Γ) {s t e : TypeId} {x : Operand} {l k : Nat} {cs : List V} (ho : o.op = .convert s t x) (hs : P.underlying s = some .unsafePointer) (ht : P.underlying t = some (.pointer e)) {n : Nat} (hn : sizeT P e = some n)
   (hp : Rep fid Γ (.ptr l 0) (ρ x)) (hσ : Γ.σ[l]? = some (.cellsT k cs)) (hin : (downT P ids e (List.range P.types.size)).contains (k, cs.length) = true) : Comes P fid Γ ρ o (.ptr l 0) Γ.σ := by
 have hp' := hp
 simp only [Rep] at hp'
 obtain ⟨b, hm, hx, _⟩ := hp'
 obtain ⟨_, arr, h2, h3⟩ := hr.obs l _ b hσ hm
 have hl := Reps.length h3
 rw [Array.length_toList] at hl
 have hsh := shape_cells h2
 obtain ⟨T, q1, q2, q3⟩ := downT_mem hin
 rw [hid.ty T k q1, hl, q2] at hsh
 refine .pure hr (x := ρ x) ?_ hp
 simp only [execOp, ho, hx, Sem.run_bind, convert, run_underlying hs, run_underlying ht, Result.andThen_ok, Conv.unsafePointer, Conv.seenAt, viewAt, run_shape, hsh, Option.isSome_some, if_true, Sem.run_pure, run_sizeOf hn]
 by_cases hz : n = 0
 · simp [hz, variablesAt, hsh, q3]
 · simp [hz, variablesAt, hsh, q3]
theorem c_peq (hr : Real fid Γ) {op : BinOp} {t t' e : TypeId} {x y : Operand} {l off : Nat} (neg : Bool) (hop : op = if neg then .neq else .eql) (ho : o.op = .binOp op t x y t') (ht : P.underlying t = some (.pointer e)) {n : Nat} (hn : sizeT P e = some n) (hn0 : n ≠ 0)
   (hx : Rep fid Γ (.ptr l off) (ρ x)) (hy : Rep fid Γ (.ptr l off) (ρ y)) : Comes P fid Γ ρ o (.bool (!neg)) Γ.σ := by
 simp only [Rep] at hx hy
 obtain ⟨b, hm, hx, _⟩ := hx
 obtain ⟨b', hm', hy, _⟩ := hy
 rw [hm] at hm'; cases hm'
 refine .pure hr (x := .bool (!neg)) ?_ (by simp [Rep, RepD, noAgg])
 have heq : (Op.equal t (.pointer (some ⟨b, off, none⟩)) (.pointer (some ⟨b, off, none⟩))).run P Γ.w = .ok true Γ.w := by
   rw [show Op.equal t (.pointer (some ⟨b, off, none⟩)) (.pointer (some ⟨b, off, none⟩)) = Op.equalIn (9999 + 1) t (.pointer (some ⟨b, off, none⟩)) (.pointer (some ⟨b, off, none⟩)) from rfl, Op.equalIn]
   simp only [Sem.run_bind, run_underlying ht, Result.andThen_ok, run_sizeOf hn]
   simp [hn0, sameAddr]
 cases neg with
 | false =>
   simp only [Bool.false_eq_true, if_false] at hop
   subst hop
   simp only [execOp, ho, hx, hy, Sem.run_bind, eqGuard, binOp]
   simp [heq]
 | true =>
   simp only [if_true] at hop
   subst hop
   simp only [execOp, ho, hx, hy, Sem.run_bind, eqGuard, binOp]
   simp [heq]
section
variable {c : Call} {x y : Operand} {tx : TypeId}
theorem c_usd (hr : Real fid Γ) (ho : o.op = .call c) (hcal : c.callee = .builtin .unsafeSliceData) (hargs : c.args.toList = [x]) {u v : V} (hu : Rep fid Γ u (ρ x))
   (h : (u = .dat (.lit (.slice none 0 0)) /\ v = .dat (.lit (.pointer none))) \/ ∃ l n, u = .own l n 1 /\ 0 < n /\ v = .eptr l n 0) : Comes P fid Γ ρ o v Γ.σ := by
 have ha : c.args = #[x] := by apply Array.ext'; simpa using hargs
 have call : ∀ r, (Builtin.unsafeSliceData_ c.argTypes o.type #[ρ x]).run P Γ.w = .ok r Γ.w -> (execOp ρ o).run P Γ.w = .ok (.value r) Γ.w := fun r hr' => by
   simp only [execOp, ho, resolve, hcal, ha, invoke, builtin, Sem.run_bind, Sem.run_pure, Result.andThen_ok]
   simp [hr']
 rcases h with ⟨rfl, rfl⟩ | ⟨l, n, rfl, hn, rfl⟩
 · exact .pure hr (call _ (by rw [(Rep_lit hu).1]; exact Lib.run_unsafeSliceData_nil _ _ _ 0 0)) (by simp [Rep, RepD, noAgg])
 · simp only [Rep] at hu
   obtain ⟨a, cap, hx, h2, _, h3, h4⟩ := hu
   refine .pure hr (call _ (by rw [hx]; exact Lib.run_unsafeSliceData_row _ _ _ a n cap (by omega))) ?_
   simp only [Rep]
   refine ⟨a, rfl, h3, fun ob cs q1 q2 => ?_⟩
   obtain ⟨q3, q4⟩ := h4 ob cs q1 q2
   refine ⟨by omega, fun hl => ?_⟩
   obtain ⟨b, arr, e, k1, k2, k3, k4⟩ := q4 (by omega)
   exact ⟨b, arr, e, k1, k2, k3, by omega⟩
end
def unb (μ : Nat -> Option Nat) (l : Nat) : Nat -> Option Nat := fun j => if j = l then none else μ j
theorem killVec (hr : Real fid Γ) {t l b : Nat} {cs : List V} {w' : World} (ho : Γ.σ[l]? = some (.vecT t cs)) (hm : Γ.μ l = some b) (hw : WOnly b Γ.w w') :
   Real fid ⟨Γ.σ.set l .dead, unb Γ.μ l, Γ.F, w'⟩ /\ Step Γ ⟨Γ.σ.set l .dead, unb Γ.μ l, Γ.F, w'⟩ := by
 have hF : Γ.F b = 0 := by have := hr.obs l _ b ho hm; simp only [RepOb] at this; exact this.1
 have hlt : l < Γ.σ.length := (List.getElem?_eq_some_iff.1 ho).1
 have hne : ∀ j, l ≠ j -> unb Γ.μ l j = Γ.μ j := fun j e => by simp only [unb]; rw [if_neg (Ne.symm e)]
 have hback : ∀ j k, unb Γ.μ l j = some k -> j ≠ l /\ Γ.μ j = some k := fun j k h => by
   simp only [unb] at h
   split at h
   · cases h
   · rename_i e; exact ⟨e, h⟩
 have hother : ∀ j k, j ≠ l -> Γ.μ j = some k -> k ≠ b := fun j k e hk e' => by subst e'; exact e (hr.inj _ _ _ hk hm)
 have hext : Ext Γ ⟨Γ.σ.set l .dead, unb Γ.μ l, Γ.F, w'⟩ := by
   refine ⟨Nat.le_of_eq hw.size.symm, hw.os, hw.tape, hw.output, fun _ => Nat.le_refl _, fun k i v hi hv => ?_, fun k arr e hk ha => ⟨arr, ?_, rfl⟩, by simp, fun j o hj hjt => ?_, fun j m hj => ?_, row_of fun j o hj hjt => ?_⟩
   · have : k ≠ b := fun e => by subst e; omega
     rw [cell?_of_block (hw.other k this)]; exact hv
   · have : k ≠ b := fun e => by subst e; omega
     rw [hw.other k this]; exact ha
   · have e : l ≠ j := fun e => by subst e; rw [ho] at hj; cases hj; cases hjt
     exact ⟨⟨o, by rw [List.getElem?_set_ne e]; exact hj, hjt⟩, fun k hk => (hne j e).trans hk⟩
   · have e : l ≠ j := fun e => by subst e; rw [ho] at hj; cases hj
     exact ⟨m, by rw [List.getElem?_set_ne e]; exact hj, Nat.le_refl _, fun h => show (unb Γ.μ l j).isSome = true from by rw [hne j e]; exact h, fun _ k hk => (hne j e).trans hk⟩
   · by_cases e : l = j
     · subst e; exact .inr ⟨.dead, by simp [hlt], rfl, rfl⟩
     · exact .inl ⟨by rw [List.getElem?_set_ne e]; exact hj, fun k hk => ⟨(hne j e).trans hk, fun a u h => by
         rw [hw.other k (hother j k (Ne.symm e) hk)]; exact h⟩⟩
 refine ⟨⟨fun j o k hj hk => ?_, fun j k hk => ?_, fun j j' k hk hk' => ?_, fun k hk => ?_, Glb.ext hext hr.glb⟩, hext, ⟨fun k hk hno => ⟨hw.other k fun e => by subst e; exact hno l hm, rfl⟩, fun j k hj _ => ⟨j, (hback j k hj).2⟩⟩, fun j hj hn => ?_⟩
 · obtain ⟨h1, h2⟩ := hback j k hk
   simp only at hj
   rw [List.getElem?_set_ne (Ne.symm h1)] at hj
   exact RepOb.ext hext (hw.other k (hother j k h1 h2)) rfl o (hr.obs j o k hj h2)
 · obtain ⟨h1, h2⟩ := hback j k hk
   have := hr.dom j k h2
   exact ⟨by simpa using this.1, by rw [hw.size]; exact this.2⟩
 · exact hr.inj j j' k (hback j k hk).2 (hback j' k hk').2
 · obtain ⟨arr, e, fz, h1, h2⟩ := hr.imm k hk
   have : k ≠ b := fun e => by subst e; simp only at hk; omega
   exact ⟨arr, e, fz, by rw [hw.other k this]; exact h1, h2⟩
 · simp only [unb]
   split
   · rfl
   · exact hn
theorem freeze_only (w : World) (b n : Nat) : WOnly b w (w.freeze ⟨b, 0, none⟩ n) := by
 unfold World.freeze
 split
 · exact .refl b w
 · exact ⟨rfl, rfl, rfl, by simp, fun k hk => by
     simp only [Array.getElem?_modify]
     rw [if_neg (by simpa using Ne.symm hk)]⟩
section
variable {c : Call} {x y : Operand} {tx ty : TypeId}
theorem c_ustr (hr : Real fid Γ) (ho : o.op = .call c) (hcal : c.callee = .builtin .unsafeString) (hargs : c.args.toList = [x, y]) (hats : c.argTypes.toList = [tx, ty]) {e : TypeId} {t l : Nat} {cs : List V} {k : IntKind} {bs : List UInt8}
   (htx : P.underlying tx = some (.pointer e)) (hce : P.cellsOf e = 1) (hty : fid.ty t = e) (hx : Rep fid Γ (.eptr l cs.length 0) (ρ x)) (hy : Rep fid Γ (.dat (.lit (.int k cs.length))) (ρ y)) (hk : k = .i64)
   (hσ : Γ.σ[l]? = some (.vecT t cs)) (h0 : 0 < cs.length) (h40 : cs.length <= 2 ^ 40) (hbs : toBytes cs = some bs) : Comes P fid Γ ρ o (.str ⟨bs.toArray⟩) (Γ.σ.set l .dead) := by
 subst hk
 have ha : c.args = #[x, y] := by apply Array.ext'; simpa using hargs
 have hb : c.argTypes = #[tx, ty] := by apply Array.ext'; simpa using hats
 simp only [Rep] at hx
 obtain ⟨a, hx, _, h4⟩ := hx
 obtain ⟨b, arr', e', q1, q2, q3, q4⟩ := (h4 _ _ hσ rfl).2 rfl
 obtain ⟨vs, arr, k1, k2, k3, k4, k5, k6, k7⟩ := vecT_cells hr hσ q1
 subst q2
 have hvs := toBytes_vals (F := Γ.F) hbs k4
 have hlen := toBytes_length hbs
 have hrun := Lib.run_unsafeString_row (P := P) Γ.w tx ty o.type e htx hce b arr.size (by rw [shape_cells k1, hty]) bs (by intro h; rw [h] at hlen; simp at hlen; omega) (by omega) (by omega) (fun j z hj => by
   rw [add_none, Nat.zero_add]
   exact k7 j _ (by rw [hvs, List.getElem?_map, hj]; rfl))
 obtain ⟨u1, u2⟩ := killVec hr hσ q1 (freeze_only Γ.w b bs.length)
 refine ⟨_, .string ⟨bs.toArray⟩, rfl, u1, u2, by simp [Rep, RepD, noAgg], .inl ?_⟩
 simp only [execOp, ho, resolve, hcal, ha, hb, invoke, builtin, Sem.run_bind, Sem.run_pure, Result.andThen_ok]
 rw [hlen] at hrun
 simp [hx, (Rep_lit hy).1, hrun]
 simp [hlen]
theorem c_ustr0 (hr : Real fid Γ) (ho : o.op = .call c) (hcal : c.callee = .builtin .unsafeString) (hargs : c.args.toList = [x, y]) (hats : c.argTypes.toList = [tx, ty]) {k : IntKind} 
   (hx : Rep fid Γ (.dat (.lit (.pointer none))) (ρ x)) (hy : Rep fid Γ (.dat (.lit (.int k 0))) (ρ y)) (hk : k = .i64) : Comes P fid Γ ρ o (.str ⟨#[]⟩) Γ.σ := by
 subst hk
 have ha : c.args = #[x, y] := by apply Array.ext'; simpa using hargs
 have hb : c.argTypes = #[tx, ty] := by apply Array.ext'; simpa using hats
 have hrun := Lib.run_unsafeString_none (P := P) Γ.w tx ty o.type none
 refine .pure hr (x := .string ⟨#[]⟩) ?_ (by simp [Rep, RepD, noAgg])
 simp only [execOp, ho, resolve, hcal, ha, hb, invoke, builtin, Sem.run_bind, Sem.run_pure, Result.andThen_ok]
 simp [(Rep_lit hx).1, (Rep_lit hy).1, hrun]
 try rfl
theorem find_same (fn : Func) (h : fn.name = "internal/abi.NoEscape") (ho : fn.origin = "") : Extern.findNext fn = none /\ Extern.find fn = some Extern.AbiNoEscape.same := by
 have g1 : Extern.allNextRows.lookup "internal/abi.NoEscape" = none := by kernel_rfl
 have g2 : Extern.allNextRows.lookup "" = none := by kernel_rfl
 have g3 : Extern.allGenericRows.lookup "internal/abi.NoEscape" = none := by kernel_rfl
 have g4 : Extern.allTypedRows.lookup "internal/abi.NoEscape" = none := by kernel_rfl
 have g5 : Extern.allRows.lookup "internal/abi.NoEscape" = some Extern.AbiNoEscape.same := by kernel_rfl
 constructor
 · simp only [Extern.findNext, h, ho, g1, g2]; rfl
 · simp only [Extern.find, h, ho, g3, g4, g5]; rfl
theorem find_idx (fn : Func) (h : fn.name = "internal/bytealg.IndexByteString") (ho : fn.origin = "") : Extern.findNext fn = none /\ Extern.find fn = some Extern.BytealgIndexByte.indexByte := by
 have g1 : Extern.allNextRows.lookup "internal/bytealg.IndexByteString" = none := by kernel_rfl
 have g2 : Extern.allNextRows.lookup "" = none := by kernel_rfl
 have g3 : Extern.allGenericRows.lookup "internal/bytealg.IndexByteString" = none := by kernel_rfl
 have g4 : Extern.allTypedRows.lookup "internal/bytealg.IndexByteString" = none := by kernel_rfl
 have g5 : Extern.allRows.lookup "internal/bytealg.IndexByteString" = some Extern.BytealgIndexByte.indexByte := by kernel_rfl
 constructor
 · simp only [Extern.findNext, h, ho, g1, g2]; rfl
 · simp only [Extern.find, h, ho, g3, g4, g5]; rfl
theorem externT_spec {f : FuncId} {b : Bool} (h : externT P f = some b) : ∃ fn, P.funcs[f]? = some fn /\ fn.body.isNone = true /\ (fn.name == "runtime.NumGoroutine") = false /\ Extern.findNext fn = none /\
   Extern.find fn = some (if b then Extern.BytealgIndexByte.indexByte else Extern.AbiNoEscape.same) := by
 unfold externT at h
 split at h
 · rename_i fn hfn
   split at h
   · rename_i hb
     split at h
     · rename_i hn
       cases h
       obtain ⟨h1, h2⟩ := find_same fn hn hb.2
       exact ⟨fn, hfn, hb.1, by rw [hn]; rfl, h1, h2⟩
     · split at h
       · rename_i hn
         cases h
         obtain ⟨h1, h2⟩ := find_idx fn hn hb.2
         exact ⟨fn, hfn, hb.1, by rw [hn]; rfl, h1, h2⟩
       · cases h
   · cases h
 · cases h
theorem cXs1 {xs : List Operand} {y : X} (h : cXs ids N xs = some [y]) : ∃ x, xs = [x] /\ cX ids N x = some y := by
 cases xs with
 | nil => simp [cXs] at h
 | cons x r =>
   simp only [cXs] at h
   split at h
   · rename_i u us h1 h2
     simp only [Option.some.injEq, List.cons.injEq] at h
     obtain ⟨rfl, rfl⟩ := h
     cases r with
     | nil => exact ⟨x, rfl, h1⟩
     | cons z r =>
       simp only [cXs] at h2
       split at h2 <;> cases h2
   · cases h
theorem cXs2 {xs : List Operand} {y z : X} (h : cXs ids N xs = some [y, z]) : ∃ p q, xs = [p, q] /\ cX ids N p = some y /\ cX ids N q = some z := by
 cases xs with
 | nil => simp [cXs] at h
 | cons x r =>
   simp only [cXs] at h
   split at h
   · rename_i u us h1 h2
     simp only [Option.some.injEq, List.cons.injEq] at h
     obtain ⟨rfl, rfl⟩ := h
     obtain ⟨q, rfl, hq⟩ := cXs1 h2
     exact ⟨x, q, rfl, h1, hq⟩
   · cases h
theorem c_same (hr : Real fid Γ) {f : FuncId} (ho : o.op = .call c) (hcal : c.callee = .value (.func f)) (he : externT P f = some false) (hargs : c.args.toList = [x]) {u : V} (hf : ρ (.func f) = .func (.func f) #[] #[]) (hu : Rep fid Γ u (ρ x)) : Comes P fid Γ ρ o u Γ.σ := by
 have ha : c.args = #[x] := by apply Array.ext'; simpa using hargs
 obtain ⟨fn, h1, h2, h3, h4, h5⟩ := externT_spec he
 simp only [Bool.false_eq_true, if_false] at h5
 refine .pure hr (x := ρ x) ?_ hu
 simp only [execOp, ho, resolve, hcal, ha, hf, Deferred.ofValue, Sem.run_bind, Sem.run_pure, Result.andThen_ok, invoke]
 have := run_callFunc_extern h1 h3 h2 h4 h5 #[ρ x] Γ.w
 have hs : (Extern.AbiNoEscape.same #[ρ x]).run P Γ.w = .ok (ρ x) Γ.w := rfl
 simp [this, hs]
theorem c_idx (hr : Real fid Γ) {f : FuncId} (ho : o.op = .call c) (hcal : c.callee = .value (.func f)) (he : externT P f = some true) (hargs : c.args.toList = [x, y]) (hf : ρ (.func f) = .func (.func f) #[] #[]) {s : ByteArray} {n : Int} (hx : Rep fid Γ (.str s) (ρ x)) (hy : Rep fid Γ (.dat (.lit (.int .u8 n))) (ρ y)) :
   Comes P fid Γ ρ o (.int (firstIdx s n.toNat.toUInt8)) Γ.σ := by
 have ha : c.args = #[x, y] := by apply Array.ext'; simpa using hargs
 obtain ⟨fn, h1, h2, h3, h4, h5⟩ := externT_spec he
 simp only [if_true] at h5
 refine .pure hr (x := .int .i64 (firstIdx s n.toNat.toUInt8)) ?_ (by simp [Rep, RepD, noAgg])
 simp only [execOp, ho, resolve, hcal, ha, hf, Deferred.ofValue, Sem.run_bind, Sem.run_pure, Result.andThen_ok, invoke]
 have := run_callFunc_extern h1 h3 h2 h4 h5 #[ρ x, ρ y] Γ.w
 rw [(Rep_lit hx).1, (Rep_lit hy).1] at this
 simp [(Rep_lit hx).1, (Rep_lit hy).1, this, run_indexByte_string]
end
end
end Go.Pm
end SJ3
