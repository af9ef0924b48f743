/- Calls; every operation. -/
import Derived.Test.YtebhnnjdljcicaaPmK
namespace Go.Pm
variable {P : Program} {ids : FuncId → Option Nat} {fid : Fid} {N : Nat}

/-- The fences that are met: none but that of a round. -/
abbrev FR (ro : Option Nat) : Fence := { Fence.wide with round := ro }
def Enters (P : Program) (f : FuncId) : Prop := ∃ fn, P.funcs[f]? = some fn ∧ (fn.name == "runtime.NumGoroutine") = false ∧ fn.body.isSome = true
/-- What a call's outcome says of the given program. -/
def SatCall (P : Program) (fid : Fid) (f : Nat) (args : List V) (σ : S) (v : V) (σ' : S) : Prop :=
  Enters P (fid f) ∧ ∀ (Γ : Ctx) (xs : List Value), Γ.σ = σ → Real fid Γ → Reps fid Γ args xs →
    CallsIn Fence.wide 0 P (fid f) xs.toArray Γ.w fun e w' => ∃ Γ' x, e = .returned x ∧ Γ'.w = w' ∧ Γ'.σ = σ' ∧ Real fid Γ' ∧ Step Γ Γ' ∧ Rep fid Γ' v x
/-- The same for a round of a range over a function: yield's call. -/
def SatRound (P : Program) (fid : Fid) (args : List V) (σ : S) (v : V) (σ' : S) : Prop :=
  ∀ (Γ : Ctx) (xs : List Value), Γ.σ = σ → Real fid Γ → Reps fid Γ args xs → ∃ l b ys fn tmps as bd, args.head? = some (.yld l) ∧ xs = .func (.yield b) #[] #[] :: ys ∧
    (Instr.yield b ys.toArray).run P Γ.w = .ok (.round b fn tmps as bd) Γ.w ∧
    RoundIn Fence.wide 0 P b fn tmps as bd Γ.w fun e w' => ∃ Γ' x, e = .returned x ∧ Γ'.w = w' ∧ Γ'.σ = σ' ∧ Real fid Γ' ∧ Step Γ Γ' ∧ Rep fid Γ' v x
structure CSound (P : Program) (fid : Fid) (C : Task → Option Res) : Prop where
  call : ∀ f args σ v σ', C (.call f args σ) = some (.ret v σ') → SatCall P fid f args σ v σ'
  round : ∀ args σ v σ', C (.round args σ) = some (.ret v σ') → SatRound P fid args σ v σ'

theorem Reps_cat {Γ : Ctx} {a b : List V} {xs ys : List Value} (ha : Reps fid Γ a xs) (hb : Reps fid Γ b ys) : Reps fid Γ (a ++ b) (xs ++ ys) := Reps_append.2 ⟨_, _, rfl, ha, hb⟩
theorem sealV {Γ : Ctx} {v : V} {x : Value} (h : Rep fid Γ v x) : Rep fid Γ v.sealv x := by
  unfold V.sealv
  split
  · simp only [Rep, RepD] at h ⊢
    obtain ⟨b, cap, vs, m, h1, h2, h3, h4, _⟩ := h
    exact ⟨b, 0, cap, vs, h1, h2, by simp, h3, h4⟩
  · exact h
theorem sealVs {Γ : Ctx} : ∀ {vs : List V} {xs : List Value}, Reps fid Γ vs xs → Reps fid Γ (sealL vs) xs
  | [], xs, h => by simpa only [sealL, Reps] using h
  | v :: vs, xs, h => by
    simp only [sealL, Reps] at h ⊢
    obtain ⟨y, ys, h1, h2, h3⟩ := h
    exact ⟨y, ys, h1, sealV h2, sealVs h3⟩
theorem sealTV {Γ : Ctx} {v : V} {x : Value} (h : Rep fid Γ v x) : Rep fid Γ v.sealT x := by
  unfold V.sealT
  split
  · simp only [Rep] at h
    obtain ⟨vs, rfl, h⟩ := h
    exact Rep_mkAgg (sealVs h)
  · exact sealV h
theorem sealTVs {Γ : Ctx} : ∀ {vs : List V} {xs : List Value}, Reps fid Γ vs xs → Reps fid Γ (sealTL vs) xs
  | [], xs, h => by simpa only [sealTL, Reps] using h
  | v :: vs, xs, h => by
    simp only [sealTL, Reps] at h ⊢
    obtain ⟨y, ys, h1, h2, h3⟩ := h
    exact ⟨y, ys, h1, sealTV h2, sealTVs h3⟩
theorem argS_sound {Γ : Ctx} (f : Nat) {vs : List V} {xs : List Value} (h : Reps fid Γ vs xs) : Reps fid Γ (argS f vs) xs := by
  unfold argS
  split
  · exact sealTVs h
  · exact h
theorem doCall_sound {C : Task → Option Res} (hC : CSound P fid C) {Γ : Ctx} (hr : Real fid Γ) {f : Nat} {args : List V} {xs : List Value} {v : V} {σ' : S} (ha : Reps fid Γ args xs) (h : doCall C (.call f) args Γ.σ = some (v, σ')) :
    Enters P (fid f) ∧ CallsIn Fence.wide 0 P (fid f) xs.toArray Γ.w fun e w' => ∃ Γ' x, e = .returned x ∧ Γ'.w = w' ∧ Γ'.σ = σ' ∧ Real fid Γ' ∧ Step Γ Γ' ∧ Rep fid Γ' v x := by
  unfold doCall at h
  simp only at h
  generalize reach Γ.σ 100000 (locsL args) [] = L at h
  split at h
  · rename_i args' σs hres
    split at h
    · rename_i v' σs' hcall
      cases h
      obtain ⟨h1, h2, h3, h4, h5, h6⟩ := restrict_sound hr hres
      obtain ⟨he, hs⟩ := hC.call _ _ _ _ _ hcall
      refine ⟨he, (hs (Γ.part L σs) xs rfl h5 (h6 xs ha)).mono ?_⟩
      rintro e w' ⟨Γs', x, he, hw, hσ, hr', hst, hx⟩
      obtain ⟨Γ', k1, k2, k3, k4, k5⟩ := call_back hr h1 h3 h4 h2 hr' hst
      exact ⟨Γ', x, he, k2.trans hw, by rw [k1, hσ], k3, k4, k5 _ _ hx⟩
    · cases h
  · cases h
theorem doRound_sound {C : Task → Option Res} (hC : CSound P fid C) {Γ : Ctx} (hr : Real fid Γ) {args : List V} {xs : List Value} {v : V} {σ' : S} (ha : Reps fid Γ args xs) (h : doCall C .round args Γ.σ = some (v, σ')) :
    ∃ b ys fn tmps as bd, xs = .func (.yield b) #[] #[] :: ys ∧ (Instr.yield b ys.toArray).run P Γ.w = .ok (.round b fn tmps as bd) Γ.w ∧
      RoundIn Fence.wide 0 P b fn tmps as bd Γ.w fun e w' => ∃ Γ' x, e = .returned x ∧ Γ'.w = w' ∧ Γ'.σ = σ' ∧ Real fid Γ' ∧ Step Γ Γ' ∧ Rep fid Γ' v x := by
  unfold doCall at h
  simp only at h
  generalize reach Γ.σ 100000 (locsL args) [] = L at h
  split at h
  · rename_i args' σs hres
    split at h
    · rename_i v' σs' hcall
      cases h
      obtain ⟨h1, h2, h3, h4, h5, h6⟩ := restrict_sound hr hres
      obtain ⟨l, b, ys, fn, tmps, as, bd, _, q1, q2, q3⟩ := hC.round _ _ _ _ hcall (Γ.part L σs) xs rfl h5 (h6 xs ha)
      refine ⟨b, ys, fn, tmps, as, bd, q1, q2, q3.mono ?_⟩
      rintro e w' ⟨Γs', x, he, hw, hσ, hr', hst, hx⟩
      obtain ⟨Γ', k1, k2, k3, k4, k5⟩ := call_back hr h1 h3 h4 h2 hr' hst
      exact ⟨Γ', x, he, k2.trans hw, by rw [k1, hσ], k3, k4, k5 _ _ hx⟩
    · cases h
  · cases h
theorem run_callFunc {f : FuncId} (h : Enters P f) (args : Array Value) (w : World) : (callFunc f args).run P w = .ok (.enter f args) w := by
  obtain ⟨fn, h1, h2, h3⟩ := h
  have h3' : fn.body.isNone = false := by cases hb : fn.body <;> simp_all
  simp only [callFunc, Sem.run_bind, run_program, Result.andThen_ok, h1, h2, h3', Bool.false_eq_true, if_false, Sem.run_pure]

section
variable {Γ : Ctx} {fr : Fr} {a : Act} {o : Oper} {v : V} {σ' : S} {C : Task → Option Res} {ro : Option Nat} {K : Act → World → Prop} {Q : Exit → Act → World → Prop}
theorem optEv_sound (hid : Ties ids fid) (hf : FrRep fid Γ N fr a.tmps) {x : Option Operand} {y : Option X} {u : Option V} (hc : cOX ids N x = some y) (hv : optEv fr y = some u) : RepO fid Γ a.eval u x := by
  cases x with
  | none => simp only [cOX, Option.some.injEq] at hc; subst hc; simp only [optEv, Option.some.injEq] at hv; subst hv; exact trivial
  | some x =>
    simp only [cOX, Option.map_eq_some_iff] at hc
    obtain ⟨z, hz, rfl⟩ := hc
    simp only [optEv] at hv
    split at hv
    · rename_i u' hu'; cases hv; exact ev_sound hid hf hz hu'
    · cases hv
/-- A call's end. -/
theorem wp_call {f : FuncId} {args : Array Value} {Γ₀ : Ctx} (hd : ∀ c, o.op ≠ .defer c) (h : (execOp a.eval o).run P Γ₀.w = .ok (.enter f args) Γ₀.w)
    (hcall : CallsIn Fence.wide 0 P f args Γ₀.w fun e w' => ∃ Γ' x, e = .returned x ∧ Γ'.w = w' ∧ Γ'.σ = σ' ∧ Real fid Γ' ∧ Step Γ₀ Γ' ∧ Rep fid Γ' v x)
    (hk : ∀ Γ' x, Γ'.σ = σ' → Real fid Γ' → Step Γ₀ Γ' → Rep fid Γ' v x → K (a.put o.dst x) Γ'.w) : o.wpIn (FR ro) 0 P a Γ₀.w K Q := by
  refine ⟨fun f _ => trivial, ?_⟩
  rw [Oper.semAt_eq _ _ _ hd, h]
  refine ⟨fun h => by simp [Fence.wide] at h, ?_⟩
  refine CallsIn.mono (F := FR ro) hcall ?_
  rintro e w' ⟨Γ', x, rfl, rfl, h1, h2, h3, h4⟩
  exact hk Γ' x h1 h2 h3 h4

theorem wp_round {b : Nat} {fn : FuncId} {tmps : Array Value} {as bd : Code} {Γ₀ : Ctx} (hd : ∀ c, o.op ≠ .defer c) (h : (execOp a.eval o).run P Γ₀.w = .ok (.round b fn tmps as bd) Γ₀.w)
    (hcall : RoundIn Fence.wide 0 P b fn tmps as bd Γ₀.w fun e w' => ∃ Γ' x, e = .returned x ∧ Γ'.w = w' ∧ Γ'.σ = σ' ∧ Real fid Γ' ∧ Step Γ₀ Γ' ∧ Rep fid Γ' v x)
    (hk : ∀ Γ' x, Γ'.σ = σ' → Real fid Γ' → Step Γ₀ Γ' → Rep fid Γ' v x → K (a.put o.dst x) Γ'.w) : o.wpIn (FR ro) 0 P a Γ₀.w K Q := by
  refine ⟨fun f _ => trivial, ?_⟩
  rw [Oper.semAt_eq _ _ _ hd, h]
  refine ⟨fun h => by simp [Fence.wide] at h, ?_⟩
  refine RoundIn.mono (F := FR ro) hcall ?_
  rintro e w' ⟨Γ', x, rfl, rfl, h1, h2, h3, h4⟩
  exact hk Γ' x h1 h2 h3 h4

theorem op_sound (hid : Ties ids fid) (hC : CSound P fid C) {op : O} (hc : cOp P ids N o.op = some op) (hr : Real fid Γ) (hf : FrRep fid Γ N fr a.tmps) (h : runO C fr Γ.σ op = some (v, σ'))
    (hk : ∀ Γ' x, Γ'.σ = σ' → Real fid Γ' → Step Γ Γ' → Rep fid Γ' v x → K (a.put o.dst x) Γ'.w) : o.wpIn (FR ro) 0 P a Γ.w K Q := by
  have hF : ∀ f, (FR ro).fn f := fun _ => trivial
  cases ho : o.op with
  | move x =>
    rw [ho] at hc
    simp only [cOp, Option.map_eq_some_iff] at hc
    obtain ⟨y, hy, rfl⟩ := hc
    simp only [runO] at h
    split at h
    · rename_i u hu; cases h
      exact (c_mov hr (.inl ho) (ev_sound hid hf hy hu)).wp hF (by simp [ho]) hk
    · cases h
  | assign x =>
    rw [ho] at hc
    simp only [cOp, Option.map_eq_some_iff] at hc
    obtain ⟨y, hy, rfl⟩ := hc
    simp only [runO] at h
    split at h
    · rename_i u hu; cases h
      exact (c_mov hr (.inr ho) (ev_sound hid hf hy hu)).wp hF (by simp [ho]) hk
    · cases h
  | pick c x y =>
    rw [ho] at hc
    simp only [cOp] at hc
    split at hc
    · rename_i c' x' y' h1 h2 h3
      cases hc
      simp only [runO] at h
      split at h
      · rename_i hcv
        split at h
        · rename_i u hu; cases h
          have := c_pick (P := P) (o := o) (u := v) (u' := v) hr ho (ev_sound hid hf h1 hcv) (fun _ => ev_sound hid hf h2 hu) (fun h => by cases h)
          exact (by simpa using this : Comes P fid Γ a.eval o v Γ.σ).wp hF (by simp [ho]) hk
        · cases h
      · rename_i hcv
        split at h
        · rename_i u hu; cases h
          have := c_pick (P := P) (o := o) (u := v) (u' := v) hr ho (ev_sound hid hf h1 hcv) (fun h => by cases h) (fun _ => ev_sound hid hf h3 hu)
          exact (by simpa using this : Comes P fid Γ a.eval o v Γ.σ).wp hF (by simp [ho]) hk
        · cases h
      · cases h
    · cases hc
  | alloc t =>
    rw [ho] at hc
    simp only [cOp, Option.map_eq_some_iff] at hc
    obtain ⟨z, hz, rfl⟩ := hc
    simp only [runO, Option.some.injEq, Prod.mk.injEq] at h
    obtain ⟨rfl, rfl⟩ := h
    exact (c_alloc hr ho hz).wp hF (by simp [ho]) hk
  | box t x =>
    rw [ho] at hc
    simp only [cOp, Option.map_eq_some_iff] at hc
    obtain ⟨y, hy, rfl⟩ := hc
    simp only [runO] at h
    split at h
    · rename_i u hu
      split at h
      · cases h
        exact (c_box hr ho (ev_sound hid hf hy hu)).wp hF (by simp [ho]) hk
      · cases h
    · cases h
  | build t parts =>
    rw [ho] at hc
    simp only [cOp] at hc
    split at hc
    · rename_i fields z ht hz
      split at hc
      · rename_i pl hpl
        simp only [Option.map_eq_some_iff] at hc
        obtain ⟨ps, hps, rfl⟩ := hc
        simp only [runO] at h
        split at h
        · rename_i vs hvs
          split at h
          · rename_i cs hcs; cases h
            exact (c_buildS hr ho ht hz hpl (parts_sound hid hf hps hvs) hcs).wp hF (by simp [ho]) hk
          · cases h
        · cases h
      · cases hc
    · rename_i len e z ht hz
      split at hc
      · rename_i n hn
        simp only [Option.map_eq_some_iff] at hc
        obtain ⟨ps, hps, rfl⟩ := hc
        simp only [runO] at h
        split at h
        · rename_i vs hvs
          split at h
          · rename_i cs hcs; cases h
            exact (c_buildA hr ho ht hz hn (parts_sound hid hf hps hvs) hcs).wp hF (by simp [ho]) hk
          · cases h
        · cases h
      · cases hc
    · cases hc
  | buildSlice t len parts =>
    rw [ho] at hc
    simp only [cOp] at hc
    split at hc
    · rename_i e ht
      split at hc
      · rename_i n z hn hz
        split at hc
        · rename_i hcond
          simp only [Option.map_eq_some_iff] at hc
          obtain ⟨ps, hps, rfl⟩ := hc
          simp only [runO] at h
          split at h
          · rename_i vs hvs
            split at h
            · rename_i cs hcs
              split at h
              · rename_i ds hds; cases h
                exact (c_bslice hr ho ht hz hn hcond.1 hcond.2.1 hcond.2.2.1 hcond.2.2.2 (parts_sound hid hf hps hvs) hcs hds).wp hF (by simp [ho]) hk
              · cases h
            · cases h
          · cases h
        · cases hc
      · cases hc
    · cases hc
  | load t x =>
    rw [ho] at hc
    simp only [cOp] at hc
    split at hc
    · rename_i n y h1 h2 h3
      cases hc
      simp only [runO] at h
      split at h
      · rename_i p hp
        split at h
        · rename_i u hu; cases h
          exact (c_load hr ho (.inl ⟨rfl, h1, h2⟩) (ev_sound hid hf h3 hp) hu).wp hF (by simp [ho]) hk
        · cases h
      · cases h
    · rename_i y h1 h3
      cases hc
      simp only [runO] at h
      split at h
      · rename_i p hp
        split at h
        · rename_i u hu; cases h
          exact (c_load hr ho (.inr ⟨rfl, h1, rfl⟩) (ev_sound hid hf h3 hp) hu).wp hF (by simp [ho]) hk
        · cases h
      · cases h
    · cases hc
  | store t x y =>
    rw [ho] at hc
    simp only [cOp] at hc
    split at hc
    · rename_i n x' y' h1 h2 h3
      cases hc
      simp only [runO] at h
      split at h
      · rename_i p u hp hu
        split at h
        · rename_i s hs; cases h
          exact (c_store hr ho h1 (ev_sound hid hf h2 hp) (ev_sound hid hf h3 hu) hs).wp hF (by simp [ho]) hk
        · cases h
      · cases h
    · cases hc
  | nilCheck x =>
    rw [ho] at hc
    simp only [cOp, Option.map_eq_some_iff] at hc
    obtain ⟨y, hy, rfl⟩ := hc
    simp only [runO] at h
    split at h
    · rename_i l k hu; cases h
      exact (c_nilchk hr ho (ev_sound hid hf hy hu) (.inl ⟨_, _, rfl⟩)).wp hF (by simp [ho]) hk
    · rename_i l k hu; cases h
      exact (c_nilchk hr ho (ev_sound hid hf hy hu) (.inr ⟨_, _, rfl⟩)).wp hF (by simp [ho]) hk
    · cases h
  | binOp op t x y t' =>
    rw [ho] at hc
    simp only [cOp] at hc
    split at hc
    · rename_i x' y' h1 h2
      split at hc
      · rename_i ht
        cases hc
        simp only [runO] at h
        split at h
        · rename_i A B hA hB
          cases h
          exact (c_eqb hr false rfl ho ht (ev_sound hid hf h1 hA) (ev_sound hid hf h2 hB)).wp hF (by simp [ho]) hk
        · cases h
      · rename_i ht
        cases hc
        simp only [runO] at h
        split at h
        · rename_i A B hA hB
          cases h
          exact (c_eqb hr true rfl ho ht (ev_sound hid hf h1 hA) (ev_sound hid hf h2 hB)).wp hF (by simp [ho]) hk
        · cases h
      · cases hc
        simp only [runO] at h
        split at h
        · rename_i A B hA hB
          split at h
          · rename_i r hr'; cases h
            exact (c_bin hr ho (ev_sound hid hf h1 hA) (ev_sound hid hf h2 hB) hr').wp hF (by simp [ho]) hk
          · cases h
        · cases h
    · cases hc
  | unOp op t x =>
    rw [ho] at hc
    simp only [cOp, Option.map_eq_some_iff] at hc
    obtain ⟨y, hy, rfl⟩ := hc
    simp only [runO] at h
    split at h
    · rename_i A hA
      split at h
      · rename_i r hr'; cases h
        exact (c_un hr ho (ev_sound hid hf hy hA) hr').wp hF (by simp [ho]) hk
      · cases h
    · cases h
  | convert s t x =>
    rw [ho] at hc
    simp only [cOp] at hc
    split at hc
    · rename_i d k y h1 h2 h3
      cases hc
      simp only [runO] at h
      split at h
      · rename_i A hA
        split at h
        · rename_i r hr'; cases h
          exact (c_conv hr ho (ev_sound hid hf h3 hA) h1 (.inl ⟨_, rfl, h2⟩) hr').wp hF (by simp [ho]) hk
        · cases h
      · cases h
    · rename_i k y h1 h2 h3
      cases hc
      simp only [runO] at h
      split at h
      · rename_i A hA
        split at h
        · rename_i r hr'; cases h
          exact (c_conv hr ho (ev_sound hid hf h3 hA) h1 (.inr (.inl ⟨rfl, h2⟩)) hr').wp hF (by simp [ho]) hk
        · cases h
      · cases h
    · rename_i y h1 h2 h3
      cases hc
      simp only [runO] at h
      split at h
      · rename_i A hA
        split at h
        · rename_i r hr'; cases h
          exact (c_conv hr ho (ev_sound hid hf h3 hA) h1 (.inr (.inr ⟨rfl, h2⟩)) hr').wp hF (by simp [ho]) hk
        · cases h
      · cases h
    · cases hc
  | fieldAddr s x f =>
    rw [ho] at hc
    simp only [cOp] at hc
    split at hc
    · rename_i fields y h1 h2
      split at hc
      · rename_i fd hfd
        split at hc
        · cases hc
        · rename_i h0
          simp only [Option.map_eq_some_iff] at hc
          obtain ⟨n, hn, rfl⟩ := hc
          simp only [runO] at h
          split at h
          · rename_i p hp
            split at h
            · rename_i u hu; cases h
              exact (c_fieldAddr hr ho (ev_sound hid hf h2 hp) h1 hfd hn (fun e => h0 (by rw [hn, e])) hu).wp hF (by simp [ho]) hk
            · cases h
          · cases h
      · cases hc
    · cases hc
  | field t x f =>
    rw [ho] at hc
    simp only [cOp] at hc
    split at hc
    · rename_i fields y h1 h2
      split at hc
      · rename_i fd hfd
        split at hc
        · rename_i n k1 k2
          cases hc
          simp only [runO] at h
          split at h
          · rename_i p hp
            split at h
            · rename_i cs hcs
              split at h
              · rename_i vs hvs
                split at h
                · rename_i u hu; cases h
                  exact (c_field hr ho (ev_sound hid hf h2 hp) h1 hfd (.inl ⟨rfl, k1, k2⟩) hcs hvs hu).wp hF (by simp [ho]) hk
                · cases h
              · cases h
            · cases h
          · cases h
        · rename_i k1
          cases hc
          simp only [runO] at h
          split at h
          · rename_i p hp
            split at h
            · rename_i cs hcs
              split at h
              · rename_i vs hvs
                split at h
                · rename_i u hu; cases h
                  exact (c_field hr ho (ev_sound hid hf h2 hp) h1 hfd (.inr ⟨rfl, k1, rfl⟩) hcs hvs hu).wp hF (by simp [ho]) hk
                · cases h
              · cases h
            · cases h
          · cases h
        · cases hc
      · cases hc
    · cases hc
  | indexAddr t x i =>
    rw [ho] at hc
    simp only [cOp] at hc
    split at hc
    · rename_i e y j h1 h2 h3
      simp only [Option.map_eq_some_iff] at hc
      obtain ⟨n, hn, rfl⟩ := hc
      simp only [runO] at h
      split at h
      · rename_i s k m hs hm
        split at h
        · rename_i u hu; cases h
          exact (c_indexAddr hr ho (ev_sound hid hf h2 hs) (ev_sound hid hf h3 hm) h1 hn hu).wp hF (by simp [ho]) hk
        · cases h
      · cases h
    · rename_i len e y j h1 h2 h3
      simp only [Option.map_eq_some_iff] at hc
      obtain ⟨n, hn, rfl⟩ := hc
      simp only [runO] at h
      split at h
      · rename_i s k m hs hm
        split at h
        · rename_i hj
          split at h
          · rename_i u hu; cases h
            exact (c_indexAddrA hr ho (ev_sound hid hf h2 hs) (ev_sound hid hf h3 hm) h1 hn hj hu).wp hF (by simp [ho]) hk
          · cases h
        · cases h
      · cases h
    · cases hc
  | index t x i =>
    rw [ho] at hc
    simp only [cOp] at hc
    split at hc
    · rename_i len e y j h1 h2 h3
      split at hc
      · rename_i n k1 k2
        cases hc
        simp only [runO] at h
        split at h
        · rename_i s k m hs hm
          split at h
          · rename_i hj
            split at h
            · rename_i cs hcs
              split at h
              · rename_i vs hvs
                split at h
                · rename_i u hu; cases h
                  exact (c_indexA hr ho (ev_sound hid hf h2 hs) (ev_sound hid hf h3 hm) h1 (.inl ⟨rfl, k1, k2⟩) hj hcs hvs hu).wp hF (by simp [ho]) hk
                · cases h
              · cases h
            · cases h
          · cases h
        · cases h
      · rename_i n k1 k2
        split at hc
        · rename_i hn1
          subst hn1
          cases hc
          simp only [runO] at h
          split at h
          · rename_i s k m hs hm
            split at h
            · rename_i hj
              split at h
              · rename_i cs hcs
                split at h
                · rename_i vs hvs
                  split at h
                  · rename_i u hu; cases h
                    exact (c_indexA hr ho (ev_sound hid hf h2 hs) (ev_sound hid hf h3 hm) h1 (.inr ⟨rfl, k1, rfl, k2⟩) hj hcs hvs hu).wp hF (by simp [ho]) hk
                  · cases h
                · cases h
              · cases h
            · cases h
          · cases h
        · cases hc
      · cases hc
    · rename_i y j h1 h2 h3
      cases hc
      simp only [runO] at h
      split at h
      · rename_i s k m hs hm
        split at h
        · rename_i hj
          split at h
          · rename_i u hu; cases h
            exact (c_indexS hr ho (ev_sound hid hf h2 hs) (ev_sound hid hf h3 hm) h1 hj hu).wp hF (by simp [ho]) hk
          · cases h
        · cases h
      · cases h
    · cases hc
  | slice t x lo hi mx =>
    rw [ho] at hc
    simp only [cOp] at hc
    split at hc
    · rename_i e y l u h1 h2 h3 h4
      simp only [Option.map_eq_some_iff] at hc
      obtain ⟨n, hn, rfl⟩ := hc
      simp only [runO] at h
      split at h
      · rename_i p l' u' hp hl hu
        split at h
        · rename_i r hr'; cases h
          exact (c_slice hr ho (ev_sound hid hf h2 hp) h1 hn (optEv_sound hid hf h3 hl) (optEv_sound hid hf h4 hu) hr').wp hF (by simp [ho]) hk
        · cases h
      · cases h
    · rename_i y l u h1 h2 h3 h4
      cases hc
      simp only [runO] at h
      split at h
      · rename_i p l' u' hp hl hu
        split at h
        · rename_i r hr'; cases h
          exact (c_sliceS hr ho (ev_sound hid hf h2 hp) h1 (optEv_sound hid hf h3 hl) (optEv_sound hid hf h4 hu) hr').wp hF (by simp [ho]) hk
        · cases h
      · cases h
    · cases hc
  | makeMap t r =>
    rw [ho] at hc
    simp only [cOp] at hc
    split at hc
    · cases hc
      simp only [runO, Option.some.injEq, Prod.mk.injEq] at h
      obtain ⟨rfl, rfl⟩ := h
      exact (c_mkmap hr ho).wp hF (by simp [ho]) hk
    · cases hc
  | mapUpdate t m k x =>
    rw [ho] at hc
    simp only [cOp] at hc
    split at hc
    · rename_i kt e m' k' x' h1 h2 h3 h4
      simp only [Option.map_eq_some_iff] at hc
      obtain ⟨kd, hkd, rfl⟩ := hc
      simp only [runO] at h
      split at h
      · rename_i l key u hm hkey hu
        split at h
        · rename_i es hes
          split at h
          · split at h
            · rename_i es' hes'; cases h
              exact (c_mapset hr (.inl ho) h1 hkd (ev_sound hid hf h2 hm) (ev_sound hid hf h3 hkey) (ev_sound hid hf h4 hu) hes hes').wp hF (by simp [ho]) hk
            · cases h
          · cases h
        · cases h
      · cases h
    · cases hc
  | insert t m k x =>
    rw [ho] at hc
    simp only [cOp] at hc
    split at hc
    · rename_i kt e m' k' x' h1 h2 h3 h4
      simp only [Option.map_eq_some_iff] at hc
      obtain ⟨kd, hkd, rfl⟩ := hc
      simp only [runO] at h
      split at h
      · rename_i l key u hm hkey hu
        split at h
        · rename_i es hes
          split at h
          · split at h
            · rename_i es' hes'; cases h
              exact (c_mapset hr (.inr ho) h1 hkd (ev_sound hid hf h2 hm) (ev_sound hid hf h3 hkey) (ev_sound hid hf h4 hu) hes hes').wp hF (by simp [ho]) hk
            · cases h
          · cases h
        · cases h
      · cases h
    · cases hc
  | lookup t m k ok =>
    rw [ho] at hc
    simp only [cOp] at hc
    split at hc
    · rename_i kt e m' k' h1 h2 h3
      split at hc
      · rename_i kd z hkd hz
        cases hc
        simp only [runO] at h
        split at h
        · rename_i l key hm hkey
          split at h
          · rename_i es hes
            split at h
            · split at h
              · rename_i u hu; cases h
                exact (c_lookup hr ho h1 hkd hz (ev_sound hid hf h2 hm) (ev_sound hid hf h3 hkey) hes hu).wp hF (by simp [ho]) hk
              · rename_i hu; cases h
                exact (c_lookup hr ho h1 hkd hz (ev_sound hid hf h2 hm) (ev_sound hid hf h3 hkey) hes hu).wp hF (by simp [ho]) hk
              · cases h
            · cases h
          · cases h
        · cases h
      · cases hc
    · cases hc
  | makeFunc fn x y =>
    rw [ho] at hc
    cases fn with
    | func f =>
      simp only [cOp] at hc
      split at hc
      · rename_i g as bs h1 h2 h3
        cases hc
        simp only [runO] at h
        split at h
        · rename_i us ws hu hw; cases h
          exact (c_mkfn hr ho (hid f g h1) (evs_sound hid hf h2 hu) (evs_sound hid hf h3 hw)).wp hF (by simp [ho]) hk
        · cases h
      · cases hc
    | _ => simp [cOp] at hc
  | extract x i =>
    rw [ho] at hc
    simp only [cOp, Option.map_eq_some_iff] at hc
    obtain ⟨y, hy, rfl⟩ := hc
    simp only [runO] at h
    split at h
    · rename_i vs hvs
      split at h
      · rename_i u hu; cases h
        exact (c_extract hr ho (ev_sound hid hf hy hvs) hu).wp hF (by simp [ho]) hk
      · cases h
    · cases h
  | call c =>
    rw [ho] at hc
    simp only [cOp, cCall] at hc
    split at hc
    · rename_i f hcal
      split at hc
      · rename_i g xs h1 h2
        cases hc
        simp only [runO] at h
        split at h
        · rename_i vs hvs
          have hargs := evs_sound hid hf h2 hvs
          obtain ⟨k1, k2⟩ := doCall_sound hC hr (argS_sound g hargs) h
          rw [hid f g h1] at k1 k2
          refine wp_call (by simp [ho]) ?_ k2 hk
          simp only [execOp, ho, resolve, hcal, Act.eval, Deferred.ofValue, Sem.run_bind, Sem.run_pure, Result.andThen_ok, invoke]
          rw [run_callFunc k1]
          simp
          apply Array.ext'; simp
        · cases h
      · cases hc
    · rename_i x hx hcal
      split at hc
      · rename_i g xs h1 h2
        cases hc
        simp only [runO] at h
        split at h
        · rename_i id as bs vs hfn hvs
          have hargs := evs_sound hid hf h2 hvs
          have hfv := ev_sound hid hf h1 hfn
          simp only [Rep] at hfv
          obtain ⟨as', bs', e1, e2, e3⟩ := hfv
          obtain ⟨k1, k2⟩ := doCall_sound hC hr (Reps_cat (Reps_cat e2 (argS_sound id hargs)) e3) h
          refine wp_call (by simp [ho]) ?_ k2 hk
          simp only [execOp, ho, resolve, hcal, e1, Deferred.ofValue, Sem.run_bind, Sem.run_pure, Result.andThen_ok, invoke]
          rw [run_callFunc k1]
          simp
        · rename_i l vs hfn hvs
          have hargs := evs_sound hid hf h2 hvs
          have hfv := ev_sound hid hf h1 hfn
          obtain ⟨b, ys, fn, tmps, as, bd, q1, q2, q3⟩ := doRound_sound hC hr (args := .yld l :: vs) (xs := a.eval x :: c.args.toList.map a.eval) ⟨_, _, rfl, hfv, hargs⟩ h
          simp only [List.cons.injEq] at q1
          obtain ⟨q0, rfl⟩ := q1
          refine wp_round (by simp [ho]) ?_ q3 hk
          simp only [execOp, ho, resolve, hcal, q0, Deferred.ofValue, Sem.run_bind, Sem.run_pure, Result.andThen_ok, invoke]
          have e : (List.map a.eval c.args.toList).toArray = Array.map a.eval c.args := by apply Array.ext'; simp
          rw [e] at q2
          simpa using q2
        · cases h
      · cases hc
    · cases hc
    · rename_i b hcal
      split at hc
      · rename_i x t hxs hts
        split at hc
        · rename_i y h1 h2
          cases hc
          simp only [runO] at h
          split at h
          · rename_i u hu
            split at h
            · rename_i n hn; cases h
              exact (c_len hr ho hcal hxs hts (ev_sound hid hf h2 hu) (.inl ⟨rfl, h1⟩) hn).wp hF (by simp [ho]) hk
            · cases h
          · cases h
        · rename_i e y h1 h2
          cases hc
          simp only [runO] at h
          split at h
          · rename_i u hu
            split at h
            · rename_i n hn; cases h
              exact (c_len hr ho hcal hxs hts (ev_sound hid hf h2 hu) (.inr (.inl ⟨rfl, _, h1⟩)) hn).wp hF (by simp [ho]) hk
            · cases h
          · cases h
        · rename_i e e' y h1 h2
          cases hc
          simp only [runO] at h
          split at h
          · rename_i u hu
            split at h
            · rename_i n hn; cases h
              exact (c_len hr ho hcal hxs hts (ev_sound hid hf h2 hu) (.inr (.inr ⟨rfl, _, _, h1⟩)) hn).wp hF (by simp [ho]) hk
            · cases h
          · cases h
        · cases hc
      · rename_i xs ts
        simp only [Option.map_eq_some_iff] at hc
        obtain ⟨ys, hys, rfl⟩ := hc
        simp only [runO] at h
        split at h
        · rename_i vs hvs
          split at h
          · rename_i y ys' hl
            split at h
            · rename_i r hr'; cases h
              exact (c_min hr ho hcal (evs_sound hid hf hys hvs) hl hr').wp hF (by simp [ho]) hk
            · cases h
          · cases h
        · cases h
      · rename_i xs ts
        simp only [Option.map_eq_some_iff] at hc
        obtain ⟨ys, hys, rfl⟩ := hc
        simp only [runO] at h
        split at h
        · rename_i vs hvs
          split at h
          · rename_i y ys' hl
            split at h
            · rename_i r hr'; cases h
              exact (c_max hr ho hcal (evs_sound hid hf hys hvs) hl hr').wp hF (by simp [ho]) hk
            · cases h
          · cases h
        · cases h
      · rename_i s x ts tx hxs hts
        split at hc
        · rename_i e ex s' x' h1 h2 h3 h4
          split at hc
          · rename_i n b z hn hb hz
            split at hc
            · rename_i hzn
              cases hc
              simp only [runO] at h
              split at h
              · rename_i p q hp hq
                exact (c_append hr ho hcal hxs hts h1 h2 hn hb hz hzn (ev_sound hid hf h3 hp) (ev_sound hid hf h4 hq) h).wp hF (by simp [ho]) hk
              · cases h
            · cases hc
          · cases hc
        · cases hc
      · cases hc
  | _ => rw [ho] at hc; simp [cOp] at hc
end
end Go.Pm
