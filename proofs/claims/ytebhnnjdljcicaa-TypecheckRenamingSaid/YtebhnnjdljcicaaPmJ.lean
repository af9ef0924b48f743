/- Append. -/
import Derived.Test.YtebhnnjdljcicaaPmI
namespace Go.Pm
variable {P : Program} {ids : FuncId → Option Nat} {fid : Fid} {N : Nat}
section
variable {Γ : Ctx} {fr : Fr} {ρ : Operand → Value} {o : Oper} {v : V} {σ' : S} {C : Task → Option Res}

theorem growBy_le (newLen : Nat) : ∀ (r c : Nat), c < newLen → Builtin.growBy newLen r c ≤ 2 * newLen + 192
  | 0, c, h => by simp only [Builtin.growBy]; omega
  | r + 1, c, h => by
    simp only [Builtin.growBy]
    rw [if_neg (by omega)]
    by_cases h2 : c + (c + 768) / 4 < newLen
    · exact growBy_le newLen r _ h2
    · cases r with
      | zero => simp only [Builtin.growBy]; omega
      | succ r => simp only [Builtin.growBy]; rw [if_pos (by omega)]; omega
theorem nextslicecap_le {need cap : Nat} (h : cap < need) : Builtin.nextslicecap need cap ≤ 2 * need + 192 := by
  unfold Builtin.nextslicecap
  split
  · omega
  · split
    · omega
    · exact growBy_le _ _ _ h
/-- What a source of an append holds. -/
theorem src_sound {u : V} {x : Value} {xs : List D} {m sz : Nat} (hu : Rep fid Γ u x) (h : srcV u = some (xs, m)) (hl : xs.length = m * sz) :
    ∃ vs, RepDs Γ.F Γ.w xs vs ∧ (∀ v ∈ vs, v.oneCell' = true) ∧ (∀ w', (Builtin.lenOf x).run P w' = .ok m w') ∧
      ∀ w' : World, (∀ b i, w'.cell? ⟨b, i, none⟩ = Γ.w.cell? ⟨b, i, none⟩) → (Builtin.firstCells sz m x).run P w' = .ok vs.toArray w' := by
  unfold srcV at h
  split at h
  · rename_i a
    cases h
    rw [(Rep_lit hu).1]
    refine ⟨[], by simp [RepDs], by simp, fun w' => by simp [Builtin.lenOf], fun w' _ => ?_⟩
    cases a with
    | none => simp [Builtin.firstCells]
    | some a => simp [Builtin.firstCells, loadCells, loadCellsFrom]
  · cases h
    simp only [Rep, RepD] at hu
    obtain ⟨b, o', cap, vs, rfl, _, _, h3, h4⟩ := hu
    refine ⟨vs, h3, h4.2.2, fun w' => by simp [Builtin.lenOf], fun w' hw => ?_⟩
    have := run_loadCells (P := P) (w := w') (b := b) (o := o') (vs := vs) (fun j v hj => by rw [hw]; exact h4.1 j v hj)
    rw [h3.length, hl] at this
    simp only [Builtin.firstCells, this]
  · cases h
    simp only [Rep] at hu
    obtain ⟨b, cap, vs, k, rfl, _, h3, h4, _⟩ := hu
    refine ⟨vs, h3, h4.2.2, fun w' => by simp [Builtin.lenOf], fun w' hw => ?_⟩
    have := run_loadCells (P := P) (w := w') (b := b) (o := 0) (vs := vs) (fun j v hj => by rw [hw]; exact h4.1 j v hj)
    rw [h3.length, hl] at this
    simp only [Builtin.firstCells, this]
  · cases h

section
variable {ts tx e ex : TypeId} {s x : Operand} {c : Call} {sz bytes : Nat} {z : Value}
/-- The run of an append that grows. -/
theorem run_grows (hts : P.underlying ts = some (.slice e)) (htx : P.underlying tx = some (.slice ex)) (hsz : sizeT P e = some sz) (hby : bytesT P e = some bytes) (hz : zeroT P e = some z)
    {base : Option Addr} {sLen sCap m : Nat} {X : Value} {olds news : List Value} {w : World} (hlen : ∀ w', (Builtin.lenOf X).run P w' = .ok m w')
    (hgt : sCap < sLen + m) (hroom : roomFor (sLen + m) bytes = true)
    (hold : ∀ w' : World, (∀ b i, w'.cell? ⟨b, i, none⟩ = w.cell? ⟨b, i, none⟩) → (Builtin.firstCells sz sLen (.slice base sLen sCap)).run P w' = .ok olds.toArray w')
    (hnew : ∀ w' : World, (∀ b i, w'.cell? ⟨b, i, none⟩ = w.cell? ⟨b, i, none⟩) → (Builtin.firstCells sz m X).run P w' = .ok news.toArray w') :
    ∃ (cap : Nat) (rest : Array Value), sLen + m ≤ cap ∧ rest.size = (cap - (sLen + m)) * z.cells.size ∧
      (Builtin.append_ #[ts, tx] o.type #[.slice base sLen sCap, X]).run P w = .ok (.slice (some ⟨w.heap.size, 0, none⟩) (sLen + m) cap) (w.drew.alloc (.cells ((olds ++ news).toArray ++ rest) e)) := by
  simp only [roomFor, decide_eq_true_eq] at hroom
  have hn := nextslicecap_le hgt
  have h1 : (2 * (sLen + m) + 192) * (bytes + 1) = (2 * (sLen + m) + 192) * bytes + (2 * (sLen + m) + 192) := by rw [Nat.mul_add, Nat.mul_one]
  have h2 : Builtin.nextslicecap (sLen + m) sCap * bytes ≤ (2 * (sLen + m) + 192) * bytes := Nat.mul_le_mul_right _ hn
  have hmax : IntKind.max .i64 = 9223372036854775807 := by decide
  have hinfo : ∃ i, P.info? e = some i ∧ i.bytes = bytes := by
    unfold bytesT at hby
    cases hi : P.info? e with
    | none => rw [hi] at hby; cases hby
    | some i => rw [hi] at hby; simp at hby; exact ⟨i, rfl, hby⟩
  obtain ⟨i, hi, hib⟩ := hinfo
  refine ⟨sLen + m + w.tape w.drawn (.appendCap (sLen + m) sCap e) % (2 ^ 63 - (sLen + m)), Builtin.zeroCells z.cells (sLen + m + w.tape w.drawn (.appendCap (sLen + m) sCap e) % (2 ^ 63 - (sLen + m)) - (sLen + m)), by omega, by simp [Builtin.zeroCells], ?_⟩
  have hz2 : (P.underlying tx matches some (.int _)) = false := by rw [htx]
  simp only [Builtin.append_, List.getElem?_toArray, List.getElem?_cons_zero, List.getElem?_cons_succ, Sem.run_bind, run_underlying hts, Result.andThen_ok, run_sizeOf hsz, run_underlying htx, Sem.run_pure, hlen, Bool.false_eq_true, if_false]
  rw [if_neg (by omega)]
  simp only [Sem.run_bind, run_typeInfo hi, Result.andThen_ok, hib, false_or]
  rw [Sem.run_ite]
  have c1 : ¬ (((sLen + m : Nat) : Int) > IntKind.i64.max ∧ bytes = 0) := by
    rw [hmax]; intro h; have := h.1; omega
  rw [if_neg c1]
  simp only [Sem.run_bind, run_typeInfo hi, Result.andThen_ok, hib]
  rw [Sem.run_ite, if_neg (by omega)]
  simp only [Sem.run_bind, run_choose, Question.forced, Bool.false_eq_true, if_false, Question.cut, Result.andThen_ok, run_askRoom]
  simp only [run_typeInfo hi, Result.andThen_ok, World.drew_eq]
  rw [hold w.drew (fun b i => rfl)]
  simp only [Result.andThen_ok, if_true, Bool.not_false]
  rw [hnew w.drew (fun b i => rfl)]
  simp only [Result.andThen_ok, run_zeroValue hz, newRow, Sem.run_bind, run_newObj, Sem.run_pure]
  simp
  rfl
/-- The run of an append within the capacity. -/
theorem run_fits (hts : P.underlying ts = some (.slice e)) (htx : P.underlying tx = some (.slice ex)) (hsz : sizeT P e = some sz)
    {base : Option Addr} {sLen sCap m : Nat} {X : Value} {news : List Value} {w w' : World} (hlen : (Builtin.lenOf X).run P w = .ok m w)
    (hle : sLen + m ≤ sCap) (hnew : (Builtin.firstCells sz m X).run P w = .ok news.toArray w)
    (hst : (match base with | some a => storeCells (a.add (sLen * sz)) news | none => pure ()).run P w = .ok () w') :
    (Builtin.append_ #[ts, tx] o.type #[.slice base sLen sCap, X]).run P w = .ok (.slice base (sLen + m) sCap) w' := by
  simp only [Builtin.append_, List.getElem?_toArray, List.getElem?_cons_zero, List.getElem?_cons_succ, Sem.run_bind, run_underlying hts, Result.andThen_ok, run_sizeOf hsz, run_underlying htx, Sem.run_pure, hlen, Bool.false_eq_true, if_false]
  rw [if_pos hle]
  simp only [Sem.run_bind, Bool.not_false, if_true, hnew, Result.andThen_ok]
  cases base with
  | none =>
    simp only [Sem.run_pure] at hst ⊢
    cases hst
    simp
  | some a =>
    simp only at hst ⊢
    simp only [Sem.run_bind, hst]
    simp
theorem append_call (ho : o.op = .call c) (hcal : c.callee = .builtin .append) (hargs : c.args.toList = [s, x]) (hts : c.argTypes.toList = [ts, tx]) {w w' : World} {r : Value}
    (h : (Builtin.append_ #[ts, tx] o.type #[ρ s, ρ x]).run P w = .ok r w') : (execOp ρ o).run P w = .ok (.value r) w' := by
  have ha : c.args = #[s, x] := by apply Array.ext'; simpa using hargs
  have hb : c.argTypes = #[ts, tx] := by apply Array.ext'; simpa using hts
  simp only [execOp, ho, resolve, hcal, ha, hb, invoke, builtin, Sem.run_bind, Sem.run_pure, Result.andThen_ok]
  simp [h]
theorem c_append (hr : Real fid Γ) (ho : o.op = .call c) (hcal : c.callee = .builtin .append) (hargs : c.args.toList = [s, x]) (hats : c.argTypes.toList = [ts, tx])
    (hts : P.underlying ts = some (.slice e)) (htx : P.underlying tx = some (.slice ex)) (hsz : sizeT P e = some sz) (hby : bytesT P e = some bytes) (hz : zeroT P e = some z) (hzn : z.cells.size = sz)
    {a b u : V} (ha : Rep fid Γ a (ρ s)) (hb : Rep fid Γ b (ρ x)) (h : appendV Γ.σ sz bytes a b = some (u, σ')) : Comes P fid Γ ρ o u σ' := by
  unfold appendV at h
  split at h
  · cases h
  · rename_i xs m hsrc
    split at h
    · rename_i hcond
      obtain ⟨hxl, hsz0⟩ := hcond
      obtain ⟨news, n1, n2, n3, n4⟩ := src_sound (P := P) hb hsrc hxl
      have hnl : news.length = m * sz := by rw [n1.length, hxl]
      split at h
      · -- nothing is appended
        rename_i hm
        subst hm
        have hnews : news = [] := by
          apply List.eq_nil_of_length_eq_zero; rw [hnl]; simp
        have fin : ∀ base n cap, ρ s = .slice base n cap → n ≤ cap → (u = a ∧ σ' = Γ.σ) → Comes P fid Γ ρ o u σ' := fun base n cap hs hle hu => by
          obtain ⟨rfl, rfl⟩ := hu
          refine .pure hr (x := ρ s) ?_ ha
          refine append_call ho hcal hargs hats ?_
          rw [hs]
          have := run_fits (P := P) (o := o) hts htx hsz (base := base) (n3 Γ.w) (show n + 0 ≤ cap by omega) (n4 Γ.w fun _ _ => rfl) (w' := Γ.w) (by rw [hnews]; cases base <;> simp [storeCells])
          simpa using this
        split at h
        · cases h
          exact fin _ _ _ (Rep_lit ha).1 (Nat.le_refl _) ⟨rfl, rfl⟩
        · cases h
          have ha' := ha
          simp only [Rep, RepD] at ha'
          obtain ⟨b', o', cap, vs, hs, h2, _⟩ := ha'
          exact fin _ _ _ hs h2 ⟨rfl, rfl⟩
        · cases h
          have ha' := ha
          simp only [Rep] at ha'
          obtain ⟨b', cap, vs, k, hs, h2, _⟩ := ha'
          exact fin _ _ _ hs h2 ⟨rfl, rfl⟩
        · cases h
      · rename_i hm
        -- a new row, with a new tip
        have fresh : ∀ {olds : List Value} {cs : List D} {base : Option Addr} {n cap : Nat}, ρ s = .slice base n cap → cap < n + m → roomFor (n + m) bytes = true → RepDs Γ.F Γ.w cs olds → (∀ v ∈ olds, v.oneCell' = true) → cs.length = n * sz →
            (∀ w' : World, (∀ b i, w'.cell? ⟨b, i, none⟩ = Γ.w.cell? ⟨b, i, none⟩) → (Builtin.firstCells sz n (.slice base n cap)).run P w' = .ok olds.toArray w') →
            ∃ (newCap : Nat) (rest : Array Value), n + m ≤ newCap ∧ (n + m) * sz + rest.size = newCap * sz ∧ (cs ++ xs).length = (n + m) * sz ∧ 0 < (n + m) * sz ∧ RepDs Γ.F Γ.w (cs ++ xs) (olds ++ news) ∧ (∀ v ∈ olds ++ news, v.oneCell' = true) ∧
              (execOp ρ o).run P Γ.w = .ok (.value (.slice (some ⟨Γ.w.heap.size, 0, none⟩) (n + m) newCap)) (Γ.w.drew.alloc (.cells ((olds ++ news).toArray ++ rest) e)) := by
          intro olds cs base n cap hs hlt hroom hd hone hcl hold
          obtain ⟨newCap, rest, r1, r2, r3⟩ := run_grows (P := P) (o := o) hts htx hsz hby hz n3 hlt hroom hold n4
          refine ⟨newCap, rest, r1, ?_, ?_, Nat.mul_pos (by omega) hsz0, RepDs_append.2 ⟨_, _, rfl, hd, n1⟩, ?_, append_call ho hcal hargs hats (by rw [hs]; exact r3)⟩
          · rw [r2, hzn, ← Nat.add_mul]; congr 1; omega
          · rw [List.length_append, hcl, hxl, Nat.add_mul]
          · intro v hv
            rcases List.mem_append.1 hv with hv | hv
            · exact hone v hv
            · exact n2 v hv
        obtain ⟨d1, d2⟩ := drewStep hr
        -- what a grown row means
        have grown : ∀ {Γ' : Ctx} {olds : List Value} {cs : List D} {rest : Array Value} {n newCap l : Nat}, Ext ⟨Γ.σ, Γ.μ, Γ.F, Γ.w.drew⟩ Γ' → Γ'.w = Γ.w.drew.alloc (.cells ((olds ++ news).toArray ++ rest) e) → Γ'.F Γ.w.heap.size = (cs ++ xs).length →
            Γ'.σ[l]? = some (.tip (cs ++ xs).length) → Γ'.μ l = some Γ.w.heap.size → n + m ≤ newCap → (n + m) * sz + rest.size = newCap * sz → (cs ++ xs).length = (n + m) * sz → 0 < (n + m) * sz → RepDs Γ.F Γ.w (cs ++ xs) (olds ++ news) → (∀ v ∈ olds ++ news, v.oneCell' = true) →
            Rep fid Γ' (.gsl (cs ++ xs) (n + m) sz l) (.slice (some ⟨Γ.w.heap.size, 0, none⟩) (n + m) newCap) := by
          intro Γ' olds cs rest n newCap l hx hw hF hσ hμ g1 g2 g3 g4 g5 g6
          have hlen := g5.length
          simp only [Rep]
          refine ⟨Γ.w.heap.size, newCap, olds ++ news, (cs ++ xs).length, rfl, g1, RepDs.ext hx _ _ (RepDs.ext d2.ext _ _ g5), ⟨fun i v hi => ?_, fun _ => by rw [hF, hlen]; omega, g6⟩, ?_, hσ, by simp [hμ], Nat.le_refl _, fun _ => ⟨hμ, _, e, by rw [hw]; exact heap_alloc_new Γ.w.drew _, ?_⟩⟩
          · have hi' : i < (olds ++ news).length := (List.getElem?_eq_some_iff.1 hi).1
            simp only [World.cell?, hw]
            rw [show Γ.w.heap.size = Γ.w.drew.heap.size from rfl, heap_alloc_new]
            simp only [Option.isSome_none, Bool.false_eq_true, if_false, Nat.zero_add]
            rw [Array.getElem?_append_left (by simpa using hi')]
            simpa using hi
          · intro h0
            rw [h0] at g3
            simp at g3
            omega
          · simp only [Array.size_append, List.size_toArray, hlen, g3]
            omega
        split at h
        · -- a nil slice
          split at h
          · rename_i hroom
            cases h
            obtain ⟨newCap, rest, f1, f2, f3, f4, f5, f6, f7⟩ := fresh (olds := []) (cs := []) (Rep_lit ha).1 (show 0 < 0 + m by omega) (by simpa using hroom) (by simp [RepDs]) (by simp) (by simp)
              (fun w' _ => by simp [Builtin.firstCells])
            obtain ⟨k1, k2⟩ := allocOb d1 (.tip xs.length) (.cells (([] ++ news).toArray ++ rest) e) xs.length
              (fun Γ' e' hx => by subst e'; simp only [RepOb, grow, if_pos]; simp at f3; exact ⟨trivial, by rw [f3]; simpa using f4⟩)
              (fun _ => ⟨_, _, _, rfl, by simp [hnl, hxl]⟩)
            refine ⟨_, _, rfl, k1, d2.trans k2, ?_, .inl f7⟩
            have := grown (cs := []) (olds := []) (rest := rest) (n := 0) (newCap := newCap) (l := Γ.σ.length) k2.ext rfl (by simp [grow]) (by simp) (by simp [bind]) f1 f2 f3 f4 f5 f6
            simpa using this
          · cases h
        · -- a full slice
          rename_i cs n
          split at h
          · rename_i hcond
            obtain ⟨hroom, hcl⟩ := hcond
            cases h
            have ha' := ha
            simp only [Rep, RepD] at ha'
            obtain ⟨b', o', cap, olds, hs, h2, h3, h4, h5⟩ := ha'
            have hcap := h3 trivial
            subst hcap
            obtain ⟨newCap, rest, f1, f2, f3, f4, f5, f6, f7⟩ := fresh hs (show cap < cap + m by omega) hroom h4 h5.2.2 hcl (fun w' hw => by
              have := run_loadCells (P := P) (w := w') (b := b') (o := o') (vs := olds) (fun j v hj => by rw [hw]; exact h5.1 j v hj)
              rw [h4.length, hcl] at this
              simp only [Builtin.firstCells, this])
            obtain ⟨k1, k2⟩ := allocOb d1 (.tip (cs ++ xs).length) (.cells ((olds ++ news).toArray ++ rest) e) (cs ++ xs).length
              (fun Γ' e' hx => by subst e'; simp only [RepOb, grow, if_pos]; exact ⟨trivial, by rw [f3]; exact f4⟩)
              (fun _ => ⟨_, _, _, rfl, by have := f5.length; simp only [Array.size_append, List.size_toArray]; omega⟩)
            exact ⟨_, _, rfl, k1, d2.trans k2, grown k2.ext rfl (by simp [grow]) (by simp) (by simp [bind]) f1 f2 f3 f4 f5 f6, .inl f7⟩
          · cases h
        · -- a row of the program's own
          rename_i cs n sz' l
          split at h
          · rename_i k hk
            split at h
            · rename_i hcond
              obtain ⟨hroom, hcl, rfl, hkl⟩ := hcond
              cases h
              have ha' := ha
              simp only [Rep] at ha'
              obtain ⟨b', cap, olds, m', hs, h2, h4, h5, h6, h7, h8, h9, h10⟩ := ha'
              rw [hk] at h7
              cases h7
              obtain ⟨q1, arr, e', q2, q3⟩ := h10 hkl.symm
              subst hkl
              by_cases hfit : n + m ≤ cap
              · -- it fits
                have hbd : (n + m) * sz' ≤ cap * sz' := Nat.mul_le_mul_right _ hfit
                rw [Nat.add_mul] at hbd
                obtain ⟨w', s1, s2, arr', s3, s4⟩ := run_storeCells (P := P) news 0 Γ.w b' (n * sz') arr e' q2 n2 (by rw [hnl]; omega)
                have hlen' : arr'.size = arr.size := by
                  have := congrArg List.length s4
                  simp [hnl] at this
                  omega
                obtain ⟨k1, k2⟩ := growTip hr hk q1 (show cs.length < (cs ++ xs).length by rw [List.length_append, hxl]; have := Nat.mul_pos (show 0 < m by omega) hsz0; omega) s2 q2 s3 hlen'
                  (by rw [List.length_append, hcl, hxl]; omega) (fun i hi => by
                    rw [← Array.getElem?_toList, ← Array.getElem?_toList, s4, List.getElem?_append_left (by simp; omega), List.getElem?_take_of_lt (by omega)])
                refine ⟨_, .slice (some ⟨b', 0, none⟩) (n + m) cap, rfl, k1, k2, ?_, .inl (append_call ho hcal hargs hats ?_)⟩
                · simp only [Rep]
                  have holdlen := h4.length
                  refine ⟨b', cap, olds ++ news, (cs ++ xs).length, rfl, hfit, RepDs.ext k2.ext _ _ (RepDs_append.2 ⟨_, _, rfl, h4, n1⟩), ⟨fun i v hi => ?_, fun _ => ?_, ?_⟩, ?_, ?_, ?_, Nat.le_refl _, fun _ => ⟨q1, arr', e', s3, by omega⟩⟩
                  · simp only [World.cell?, s3, Option.isSome_none, Bool.false_eq_true, if_false, Nat.zero_add]
                    rw [← Array.getElem?_toList, s4]
                    by_cases hi' : i < olds.length
                    · rw [List.getElem?_append_left hi'] at hi
                      rw [List.getElem?_append_left (by simp; omega), List.getElem?_take_of_lt (by omega)]
                      have := h5.1 i v hi
                      simpa [World.cell?, q2] using this
                    · rw [List.getElem?_append_right (by omega)] at hi
                      have hi2 : i - olds.length < news.length := (List.getElem?_eq_some_iff.1 hi).1
                      rw [List.getElem?_append_right (by simp; omega), List.getElem?_append_left (by simp; omega)]
                      rw [← hi]; congr 1; simp; omega
                  · simp [grow, holdlen, n1.length]
                  · intro v hv
                    rcases List.mem_append.1 hv with hv | hv
                    · exact h5.2.2 v hv
                    · exact n2 v hv
                  · simp [h6]
                  · simp only [List.getElem?_set_self (List.getElem?_eq_some_iff.1 hk).1]
                  · simp [q1]
                · rw [hs]
                  refine run_fits (P := P) (o := o) hts htx hsz (n3 Γ.w) hfit (n4 Γ.w fun _ _ => rfl) ?_
                  simp only [add_none, Nat.zero_add]
                  exact s1
              · -- it moves
                obtain ⟨newCap, rest, f1, f2, f3, f4, f5, f6, f7⟩ := fresh hs (show cap < n + m by omega) hroom h4 h5.2.2 hcl (fun w' hw => by
                  have := run_loadCells (P := P) (w := w') (b := b') (o := 0) (vs := olds) (fun j v hj => by rw [hw]; exact h5.1 j v hj)
                  rw [h4.length, hcl] at this
                  simp only [Builtin.firstCells, this])
                obtain ⟨k1, k2⟩ := moveTip d1 hk h8 (show cs.length < (cs ++ xs).length by rw [List.length_append, hxl]; have := Nat.mul_pos (show 0 < m by omega) hsz0; omega) ((olds ++ news).toArray ++ rest) e
                  (by have := f5.length; simp only [Array.size_append, List.size_toArray]; omega)
                exact ⟨_, _, rfl, k1, d2.trans k2, grown k2.ext rfl (by simp [grow]) (by simp [(List.getElem?_eq_some_iff.1 hk).1]) (by simp [bind]) f1 f2 f3 f4 f5 f6, .inl f7⟩
            · cases h
          · cases h
        · cases h
    · cases h
end
end
end Go.Pm
