/- Code; functions; the whole run. -/
import Derived.Test.YtebhnnjdljcicaaPmN
import Derived.LoopNIn
import Derived.RangeFuncRecord
namespace Go.Pm
variable {P : Program} {ids : FuncId → Option Nat} {fid : Fid}

def Ex.conc : Ex → Exit
  | .normal => .normal
  | .exit id => .exit id
  | .ret => .ret
/-! ## marks of ranges over functions -/
def mark (D : Nat) : Deferred := { target := .collected D, args := #[] }
def MarkAt (Γ0 Γ : Ctx) (D : Nat) : Prop := Γ0.w.heap.size ≤ D ∧ Γ.w.heap[D]? = some (.deferred (some [])) ∧ ∀ l, Γ.μ l ≠ some D
def Marks (Γ0 Γ : Ctx) (ds0 ds : List Deferred) : Prop := ∃ Ds : List Nat, ds = Ds.map mark ++ ds0 ∧ Ds.Nodup ∧ ∀ D ∈ Ds, MarkAt Γ0 Γ D
theorem MarkAt.step {Γ0 Γ Γ' : Ctx} {D : Nat} (h : MarkAt Γ0 Γ D) (hs : Step Γ Γ') : MarkAt Γ0 Γ' D := by
  obtain ⟨h1, h2, h3⟩ := h
  have hlt := heap_lt h2
  refine ⟨h1, by rw [(hs.frm.same D hlt h3).1]; exact h2, fun l hl => ?_⟩
  obtain ⟨l', hl'⟩ := hs.frm.new l D hl hlt
  exact h3 l' hl'
theorem Marks.step {Γ0 Γ Γ' : Ctx} {ds0 ds : List Deferred} (h : Marks Γ0 Γ ds0 ds) (hs : Step Γ Γ') : Marks Γ0 Γ' ds0 ds := by
  obtain ⟨Ds, h1, h2, h3⟩ := h
  exact ⟨Ds, h1, h2, fun D hD => (h3 D hD).step hs⟩
theorem Marks.nil (Γ0 Γ : Ctx) (ds : List Deferred) : Marks Γ0 Γ ds ds := ⟨[], rfl, List.nodup_nil, fun D h => by cases h⟩

/-- What holds where a piece of code begins: the world goes on from Γ0's, the frame is the frame. -/
structure At (fid : Fid) (N : Nat) (Γ0 : Ctx) (ds0 : List Deferred) (fr : Fr) (Γ : Ctx) (a : Act) : Prop where
  real : Real fid Γ
  step : Step Γ0 Γ
  marks : Marks Γ0 Γ ds0 a.defers
  frame : FrRep fid Γ N fr a.tmps
/-- What is known behind a piece of code. -/
def After (fid : Fid) (N : Nat) (Γ0 : Ctx) (ds0 : List Deferred) (e : Ex) (fr' : Fr) (σ' : S) (Q : Exit → Act → World → Prop) : Prop :=
  ∀ Γ' a', Γ'.σ = σ' → At fid N Γ0 ds0 fr' Γ' a' → Q e.conc a' Γ'.w
def SatLoop (P : Program) (ids : FuncId → Option Nat) (fid : Fid) (k : Nat) (b : PC) (fr : Fr) (σ : S) (e : Ex) (fr' : Fr) (σ' : S) : Prop :=
  ∃ m, ∀ (N : Nat) (K : Nat → List Nat) (c : Code) (ro : Option Nat), comp P ids N K c = some b → (ro.isSome = true → b.flat = true) → ∀ (Γ0 : Ctx) (ds0 : List Deferred) (Γ : Ctx) (a : Act) (Q : Exit → Act → World → Prop),
    Γ0.σ.length = k → Γ.σ = σ → At fid N Γ0 ds0 fr Γ a → After fid N Γ0 ds0 e fr' σ' Q → Code.roundsIn (FR ro) 0 P c Q m a Γ.w
def LSound (P : Program) (ids : FuncId → Option Nat) (fid : Fid) (C : Task → Option Res) : Prop := ∀ k b fr σ e fr' σ', C (.loop k b fr σ) = some (.out e fr' σ') → SatLoop P ids fid k b fr σ e fr' σ'
/-- Which code is which. -/
def Codes (P : Program) (ids : FuncId → Option Nat) (fid : Fid) : Prop := ∀ N c pc, fid.cr N c pc ↔ ∃ K, comp P ids N K c = some pc

theorem reserved_spec {N : Nat} : ∀ {l : List Oper} {rs : List (Nat × List D)}, reserved P N l = some rs → ∀ (base : Nat) (fr : Fr),
    (∀ t, t < N → (reserveF base rs fr).get t = fr.get t) ∧
    (∀ (j : Nat) (o : Oper) (t d : Nat), l[j]? = some o → o.op = .alloc t → o.dst = some d → (∀ i (o' : Oper), l[i]? = some o' → o'.dst = some d → i = j) →
      ∃ q z, (reserveF base rs fr).get (N + d) = some (.ptr (base + q) 0) ∧ zeroT P t = some z ∧ rs[q]? = some (N + d, litCells z))
  | [], rs, h, base, fr => by
    simp only [reserved, Option.some.injEq] at h; subst h
    exact ⟨fun _ _ => rfl, fun j o t d hj => by simp at hj⟩
  | o :: l, rs, h, base, fr => by
    simp only [reserved] at h
    split at h
    · rename_i t d ho hd
      split at h
      · rename_i z rs' hz hrs
        cases h
        simp only [reserveF]
        obtain ⟨h1, h2⟩ := reserved_spec hrs (base + 1) ((N + d, .ptr base 0) :: fr)
        refine ⟨fun t' ht' => ?_, fun j o' t' d' hj ho' hd' hu => ?_⟩
        · rw [h1 t' ht']
          simp only [Fr.get]
          rw [if_neg (by have := Nat.le_add_right N d; omega)]
        · cases j with
          | zero =>
            simp at hj; subst hj
            rw [ho] at ho'; cases ho'
            rw [hd] at hd'; cases hd'
            refine ⟨0, z, ?_, hz, rfl⟩
            -- no later one has this key
            have key : ∀ {l : List Oper} {rs : List (Nat × List D)}, reserved P N l = some rs → (∀ o' ∈ l, o'.dst ≠ some d) → ∀ (base : Nat) (fr : Fr), (reserveF base rs fr).get (N + d) = fr.get (N + d) := by
              intro l
              induction l with
              | nil => intro rs h _ base fr; simp only [reserved, Option.some.injEq] at h; subst h; rfl
              | cons o2 l ih =>
                intro rs h hn base fr
                simp only [reserved] at h
                split at h
                · rename_i t2 d2 ho2 hd2
                  split at h
                  · rename_i z2 rs2 hz2 hrs2
                    cases h
                    simp only [reserveF]
                    rw [ih hrs2 (fun o' ho' => hn o' (List.mem_cons_of_mem _ ho'))]
                    simp only [Fr.get]
                    rw [if_neg]
                    intro e
                    have : d2 = d := Nat.add_left_cancel e
                    subst this
                    exact hn o2 (by simp) hd2
                  · cases h
                · exact ih h (fun o' ho' => hn o' (List.mem_cons_of_mem _ ho')) base fr
            rw [key hrs (fun o' ho' hd' => by
              obtain ⟨i, hi⟩ := List.getElem?_of_mem ho'
              have := hu (i + 1) o' (by simpa using hi) hd'
              omega)]
            simp [Fr.get]
          | succ j =>
            obtain ⟨q, z', g1, g2, g3⟩ := h2 j o' t' d' (by simpa using hj) ho' hd' (fun i o2 hi hd2 => by
              have := hu (i + 1) o2 (by simpa using hi) hd2
              omega)
            exact ⟨q + 1, z', by rw [g1]; congr 2; omega, g2, by simpa using g3⟩
      · cases h
    · rename_i hno
      obtain ⟨h1, h2⟩ := reserved_spec h base fr
      refine ⟨h1, fun j o' t' d' hj ho' hd' hu => ?_⟩
      cases j with
      | zero =>
        simp at hj; subst hj
        exact absurd hd' (hno t' d' ho')
      | succ j => exact h2 j o' t' d' (by simpa using hj) ho' hd' (fun i o2 hi hd2 => by
          have := hu (i + 1) o2 (by simpa using hi) hd2
          omega)
theorem reserveS_get : ∀ {rs : List (Nat × List D)} {q k : Nat} {z : List D}, rs[q]? = some (k, z) → (reserveS rs)[q]? = some (.cells (z.map .dat))
  | [], q, k, z, h => by simp at h
  | (k', z') :: rs, 0, k, z, h => by simp at h; obtain ⟨rfl, rfl⟩ := h; rfl
  | (k', z') :: rs, q + 1, k, z, h => by simpa [reserveS] using reserveS_get (rs := rs) (by simpa using h)

/-- A drawn region. -/
theorem region_drawn (hid : Ties ids fid) {C : Task → Option Res} (hC : CSound P fid C) (hm : P.follows .mixedOrders = true) {N : Nat} {ro : Option Nat} {Q : Exit → Act → World → Prop} {ops : Array Oper} {un : Nat → List Nat} {as : List (List Nat)} {id : Nat} {is : List I}
    {rs : List (Nat × List D)} {fr fr' : Fr} {σ' : S} {es : List Ev} {Γ : Ctx} {a : Act} (hc : cIs P ids N true ops un 0 ops.toList = some is) (hrs : reserved P N ops.toList = some rs) (hdr : drawOk ops is as = true) (hr : Real fid Γ) (hf : FrRep fid Γ N fr a.tmps)
    (h : runLog C is (reserveF Γ.σ.length rs fr) (Γ.σ ++ reserveS rs) = some (es, fr', σ')) (hcalm : calm es is 0 es = true)
    (hk : ∀ Γ' a', Γ'.σ = σ' → Real fid Γ' → Step Γ Γ' → FrRep fid Γ' N fr' a'.tmps → a'.defers = a.defers → Q .normal a' Γ'.w) :
    (Code.region id ops true).wpIn (FR ro) 0 P Q a Γ.w := by
  have hil : is.length = ops.size := by rw [(cIs_get hc).1]; simp
  have hs := stat_of hil hdr
  obtain ⟨T, val, t0, tm, ht⟩ := trace_of h
  obtain ⟨q1, q2⟩ := reserved_spec hrs Γ.σ.length fr
  have hget : ∀ (k : Nat) (o : Oper), ops[k]? = some o → ∃ i, is[k]? = some i ∧ cI P ids N true ops un k o = some i := fun k o ho => by
    have := (cIs_get hc).2 k o (by simpa using ho)
    simpa using this
  refine wpIn_region_any hm ?_
  -- the draw, and the reserved objects
  let Γ0 : Ctx := ⟨Γ.σ ++ reserveS rs, Γ.μ, Γ.F, Γ.w.drew⟩
  have hleft : ∀ l ob, Γ.σ[l]? = some ob → (Γ.σ ++ reserveS rs)[l]? = some ob := fun l ob h => by
    rw [List.getElem?_append_left (List.getElem?_eq_some_iff.1 h).1]; exact h
  have hext : Ext Γ Γ0 := ⟨Nat.le_refl _, rfl, rfl, rfl, fun _ => Nat.le_refl _, fun _ _ _ _ h => h, fun _ arr _ _ h => ⟨arr, h, rfl⟩, by simp [Γ0],
    fun l ob h ht => ⟨⟨ob, hleft l ob h, ht⟩, fun _ h => h⟩, fun l m h => ⟨m, hleft l _ h, Nat.le_refl _, fun h => h, fun _ _ h => h⟩⟩
  have hreal : Real fid Γ0 := by
    refine ⟨fun l ob b h1 h2 => ?_, fun l b h => ?_, hr.inj, hr.imm⟩
    · have hd := hr.dom l b h2
      have h1' : Γ.σ[l]? = some ob := by
        simp only [Γ0] at h1
        rw [List.getElem?_append_left hd.1] at h1; exact h1
      exact RepOb.ext hext rfl rfl ob (hr.obs l ob b h1' h2)
    · have := hr.dom l b h
      exact ⟨by simp [Γ0]; omega, this.2⟩
  have hstep : Step Γ Γ0 := ⟨hext, ⟨fun _ _ _ => ⟨rfl, rfl⟩, fun l _ h _ => ⟨l, h⟩⟩, fun _ _ h => h⟩
  have huniq : ∀ (i j : Nat) (o o' : Oper) (d : Nat), ops[i]? = some o → ops[j]? = some o' → o.dst = some d → o'.dst = some d → i = j := fun i j o o' d ho ho' hd hd' => by
    by_cases e : i = j
    · exact e
    · obtain ⟨I, hI, hcI⟩ := hget i o ho
      obtain ⟨J, hJ, hcJ⟩ := hget j o' ho'
      have e1 := (cI_spec hcI).2.1
      have e2 := (cI_spec hcJ).2.1
      exact absurd (by rw [e2]; exact hd') (hs.uniq i j I J d hI hJ e (by rw [e1]; exact hd))
  have hq : ∀ (j : Nat) (o : Oper) (t d : Nat), ops[j]? = some o → o.op = .alloc t → o.dst = some d → ∃ q z, (T 0).1.get (N + d) = some (.ptr (Γ.σ.length + q) 0) ∧ zeroT P t = some z ∧ rs[q]? = some (N + d, litCells z) := fun j o t d ho hop hd => by
    rw [t0]
    exact q2 j o t d (by simpa using ho) hop hd (fun i o' hi hd' => huniq i j o' o d (by simpa using hi) ho hd' hd)
  have hheld : Held Γ is ops P N T := by
    refine ⟨by rw [t0]; simp, fun j o t d ho hop hd => ?_, fun j o t d j' o' t' d' l ho hop hd ho' hop' hd' h1 h2 => ?_⟩
    · obtain ⟨q, z, g1, g2, g3⟩ := hq j o t d ho hop hd
      refine ⟨Γ.σ.length + q, z, g1, by omega, g2, ?_⟩
      rw [t0]
      simp only
      rw [List.getElem?_append_right (by omega)]
      simpa using reserveS_get g3
    · obtain ⟨q, z, g1, g2, g3⟩ := hq j o t d ho hop hd
      obtain ⟨q', z', g1', g2', g3'⟩ := hq j' o' t' d' ho' hop' hd'
      rw [h1] at g1; rw [h2] at g1'
      simp only [Option.some.injEq, V.ptr.injEq] at g1 g1'
      have : q = q' := by omega
      subst this
      rw [g3] at g3'
      simp only [Option.some.injEq, Prod.mk.injEq] at g3'
      exact Nat.add_left_cancel g3'.1
  refine drawn (Γ00 := Γ) (ds := a.defers) hid hC hc hs ht (fun k i l hk' hl => by have := calm_spec hcalm k i l hk' hl; simpa using this) hheld ?_ ops.size (Array.replicate ops.size false) a Γ0 (reserveF Γ.σ.length rs fr) (by simp) (by simp) ?_ ?_ rfl
  · intro Γ' a' g1 g2 g3 g4 g5
    rw [tm] at g1 g4
    exact hk Γ' a' g1 g2 g3 g4 g5
  · have hno : ∀ i, ¬ (Array.replicate ops.size false).getD i false = true := fun i => by simp [Array.getD]
    refine ⟨hreal, hstep, ⟨0, Nat.zero_le _, by rw [t0], fun i I h => absurd h (hno i), fun i I h => by omega⟩, fun i I t h => absurd h (hno i), fun t _ => by rw [t0], fun j J k l hJ hfill _ hl => ?_, fun i j h => absurd h (hno j)⟩
    -- no block yet
    rw [t0] at hl
    obtain ⟨o, ho⟩ : ∃ o, ops[j]? = some o := by
      have := (List.getElem?_eq_some_iff.1 hJ).1
      exact ⟨ops[j]'(by omega), by simp⟩
    obtain ⟨J', hJ', hcJ⟩ := hget j o ho
    rw [hJ] at hJ'; cases hJ'
    rcases cOpD_spec (cI_spec hcJ).1 with ⟨t, d, e1, e2, _, e⟩ | ⟨_, e⟩
    · rw [hfill] at e; cases e
      obtain ⟨q, z, g1, _, _⟩ := hq j o t d ho e1 e2
      rw [t0] at g1
      simp only at g1
      rw [hl] at g1
      simp only [Option.some.injEq, V.ptr.injEq] at g1
      show Γ.μ l = none
      cases hμ : Γ.μ l with
      | none => rfl
      | some b => have := (hr.dom l b hμ).1; omega
    · rw [hfill] at e; cases e
  · refine ⟨hf.1, fun t v htN hv => Rep.ext hext _ _ (hf.2 t v htN ?_)⟩
    rw [← q1 t htN]; exact hv

/-! ## loops' records -/
theorem loop_rec {Γ : Ctx} (hr : Real fid Γ) {l b : Nat} {lp : Lp} (ho : Γ.σ[l]? = some (.loop lp)) (hm : Γ.μ l = some b) :
    ∃ L : Loop, Γ.w.heap[b]? = some (.loop L) ∧ L.params.toList = lp.ps ∧ L.state = stOf lp.st ∧ L.pending = lp.pend.map Ex.code ∧
      (∃ N, fid.cr N L.assign lp.assign ∧ fid.cr N L.body lp.body ∧ (∀ p ∈ lp.ps, p < N) ∧ FrRep fid Γ N lp.fr L.tmps) ∧
      ∀ (st : Nat) (pe : Option Ex) (s : LoopState) (j : Option Code), s = stOf st → j = pe.map Ex.code →
        Real fid ⟨Γ.σ.set l (.loop { lp with st := st, pend := pe }), Γ.μ, Γ.F, Γ.w.putObj b (.loop { L with state := s, pending := j })⟩ ∧
        Step Γ ⟨Γ.σ.set l (.loop { lp with st := st, pend := pe }), Γ.μ, Γ.F, Γ.w.putObj b (.loop { L with state := s, pending := j })⟩ := by
  have hb := hr.obs l _ b ho hm
  simp only [RepOb] at hb
  obtain ⟨h1, L, h2, h3, h4, h5, N, h6, h7, h8, h9, h10⟩ := hb
  refine ⟨L, h2, h3, h4, h5, ⟨N, h6, h7, h8, h9⟩, fun st pe s j hs hj => ?_⟩
  subst hs hj
  refine upd hr ho rfl rfl hm ⟨rfl, rfl, rfl, by simp, fun k hk => World.putObj_heap_other hk⟩ fun hext => ?_
  simp only [RepOb]
  exact ⟨h1, _, World.putObj_heap_same (heap_lt h2), h3, rfl, rfl, N, h6, h7, h8, h9.ext hext, fun l' hl' => by simpa using h10 l' hl'⟩
theorem stOf_busy {n : Nat} (h : n ≠ 1) : stOf n ≠ .busy := by
  unfold stOf
  split <;> simp_all

/-! ## code -/
section
variable {C : Task → Option Res} {ro : Option Nat}
theorem run_sound (hid : Ties ids fid) (hcr : Codes P ids fid) (hC : CSound P fid C) (hL : LSound P ids fid C) (hm : P.follows .mixedOrders = true) {N : Nat} {K : Nat → List Nat} : ∀ (c : Code) (pc : PC), comp P ids N K c = some pc →
    (ro.isSome = true → pc.flat = true) → ∀ (fr : Fr) (e : Ex) (fr' : Fr) (σ' : S) (Γ0 : Ctx) (ds0 : List Deferred) (Γ : Ctx) (a : Act) (Q : Exit → Act → World → Prop),
    run C Γ0.σ.length pc fr Γ.σ = some (e, fr', σ') → At fid N Γ0 ds0 fr Γ a → After fid N Γ0 ds0 e fr' σ' Q → c.wpIn (FR ro) 0 P Q a Γ.w
  | .skip, pc, hc, hfl, fr, e, fr', σ', Γ0, ds0, Γ, a, Q, h, hat, hk => by
    simp only [comp, Option.some.injEq] at hc; subst hc
    simp only [run, Option.some.injEq, Prod.mk.injEq] at h
    obtain ⟨rfl, rfl, rfl⟩ := h
    exact wpIn_skip (hk Γ a rfl hat)
  | .exit id, pc, hc, hfl, fr, e, fr', σ', Γ0, ds0, Γ, a, Q, h, hat, hk => by
    simp only [comp, Option.some.injEq] at hc; subst hc
    simp only [run, Option.some.injEq, Prod.mk.injEq] at h
    obtain ⟨rfl, rfl, rfl⟩ := h
    exact wpIn_exit (hk Γ a rfl hat)
  | .ret, pc, hc, hfl, fr, e, fr', σ', Γ0, ds0, Γ, a, Q, h, hat, hk => by
    simp only [comp, Option.some.injEq] at hc; subst hc
    simp only [run, Option.some.injEq, Prod.mk.injEq] at h
    obtain ⟨rfl, rfl, rfl⟩ := h
    exact wpIn_ret (hk Γ a rfl hat)
  | .region id ops false, pc, hc, hfl, fr, e, fr', σ', Γ0, ds0, Γ, a, Q, h, hat, hk => by
    simp only [comp, Option.map_eq_some_iff] at hc
    obtain ⟨is, his, rfl⟩ := hc
    simp only [run] at h
    split at h
    · rename_i fr1 σ1 hrun
      simp only [Option.some.injEq, Prod.mk.injEq] at h
      obtain ⟨rfl, rfl, rfl⟩ := h
      exact region_ordered hid hC his hat.real hat.frame hrun fun Γ' a' g1 g2 g3 g4 g5 => hk Γ' a' g1 ⟨g2, hat.step.trans g3, g5 ▸ hat.marks.step g3, g4.keep _⟩
    · cases h
  | .region id ops true, pc, hc, hfl, fr, e, fr', σ', Γ0, ds0, Γ, a, Q, h, hat, hk => by
    simp only [comp] at hc
    split at hc
    · rename_i rs is hrs his
      split at hc
      · rename_i hdr
        cases hc
        simp only [run] at h
        split at h
        · rename_i es fr1 σ1 hrun
          split at h
          · rename_i hcalm
            simp only [Option.some.injEq, Prod.mk.injEq] at h
            obtain ⟨rfl, rfl, rfl⟩ := h
            exact region_drawn hid hC hm his hrs hdr hat.real hat.frame hrun hcalm fun Γ' a' g1 g2 g3 g4 g5 => hk Γ' a' g1 ⟨g2, hat.step.trans g3, g5 ▸ hat.marks.step g3, g4.keep _⟩
          · cases h
        · cases h
      · cases hc
    · cases hc
  | .seq x y, pc, hc, hfl, fr, e, fr', σ', Γ0, ds0, Γ, a, Q, h, hat, hk => by
    simp only [comp] at hc
    split at hc
    · rename_i p q hp hq
      cases hc
      simp only [PC.flat, Bool.and_eq_true] at hfl
      simp only [run] at h
      split at h
      · rename_i fr1 σ1 hx
        refine wpIn_seq (run_sound hid hcr hC hL hm x p hp (fun h => (hfl h).1) fr .normal fr1 σ1 Γ0 ds0 Γ a _ hx hat fun Γ1 a1 g1 g2 => ?_)
        subst g1
        exact run_sound hid hcr hC hL hm y q hq (fun h => (hfl h).2) fr1 e fr' σ' Γ0 ds0 Γ1 a1 Q h g2 hk
      · rename_i hnn
        refine wpIn_seq (run_sound hid hcr hC hL hm x p hp (fun h => (hfl h).1) fr e fr' σ' Γ0 ds0 Γ a _ h hat fun Γ1 a1 g1 g2 => ?_)
        have := hk Γ1 a1 g1 g2
        cases e with
        | normal => exact absurd h (hnn _ _)
        | exit id => exact this
        | ret => exact this
    · cases hc
  | .cond z x y, pc, hc, hfl, fr, e, fr', σ', Γ0, ds0, Γ, a, Q, h, hat, hk => by
    simp only [comp] at hc
    split at hc
    · rename_i z' p q hz hp hq
      cases hc
      simp only [PC.flat, Bool.and_eq_true] at hfl
      simp only [run] at h
      split at h
      · rename_i hv
        exact wpIn_cond (t := true) (Rep_lit (ev_sound hid hat.frame hz hv)).1 (run_sound hid hcr hC hL hm x p hp (fun h => (hfl h).1) fr e fr' σ' Γ0 ds0 Γ a Q h hat hk)
      · rename_i hv
        exact wpIn_cond (t := false) (Rep_lit (ev_sound hid hat.frame hz hv)).1 (run_sound hid hcr hC hL hm y q hq (fun h => (hfl h).2) fr e fr' σ' Γ0 ds0 Γ a Q h hat hk)
      · cases h
    · cases hc
  | .block id x, pc, hc, hfl, fr, e, fr', σ', Γ0, ds0, Γ, a, Q, h, hat, hk => by
    simp only [comp, Option.map_eq_some_iff] at hc
    obtain ⟨p, hp, rfl⟩ := hc
    simp only [PC.flat] at hfl
    simp only [run] at h
    split at h
    · rename_i id' fr1 σ1 hx
      split at h
      · rename_i hid'
        simp only [Option.some.injEq, Prod.mk.injEq] at h
        obtain ⟨rfl, rfl, rfl⟩ := h
        refine wpIn_block (run_sound hid hcr hC hL hm x p hp hfl fr _ fr1 σ1 Γ0 ds0 Γ a _ hx hat fun Γ1 a1 g1 g2 => ?_)
        simp only [Ex.conc, Exit.inBlock, hid', if_true]
        exact hk Γ1 a1 g1 g2
      · rename_i hid'
        simp only [Option.some.injEq, Prod.mk.injEq] at h
        obtain ⟨rfl, rfl, rfl⟩ := h
        refine wpIn_block (run_sound hid hcr hC hL hm x p hp hfl fr _ fr1 σ1 Γ0 ds0 Γ a _ hx hat fun Γ1 a1 g1 g2 => ?_)
        simp only [Ex.conc, Exit.inBlock, hid', if_false]
        exact hk Γ1 a1 g1 g2
    · rename_i hne
      refine wpIn_block (run_sound hid hcr hC hL hm x p hp hfl fr e fr' σ' Γ0 ds0 Γ a _ h hat fun Γ1 a1 g1 g2 => ?_)
      have := hk Γ1 a1 g1 g2
      cases e with
      | normal => exact this
      | exit id' => exact absurd h (hne _ _ _)
      | ret => exact this
  | .loop x, pc, hc, hfl, fr, e, fr', σ', Γ0, ds0, Γ, a, Q, h, hat, hk => by
    simp only [comp, Option.map_eq_some_iff] at hc
    obtain ⟨p, hp, rfl⟩ := hc
    simp only [PC.flat] at hfl
    simp only [run] at h
    split at h
    · rename_i e1 fr1 σ1 hx
      simp only [Option.some.injEq, Prod.mk.injEq] at h
      obtain ⟨rfl, rfl, rfl⟩ := h
      obtain ⟨m, hs⟩ := hL _ _ _ _ _ _ _ hx
      exact wpIn_loop_rounds m (hs N K x ro hp hfl Γ0 ds0 Γ a Q rfl rfl hat hk)
    · cases h
  | .rangeFunc g ps x y, pc, hc, hfl, fr, e, fr', σ', Γ0, ds0, Γ, a, Q, h, hat, hk => by
    simp only [comp] at hc
    split at hc
    · rename_i z p q hz hp hq
      split at hc
      · rename_i hps
        cases hc
        have hro : ro = none := by
          cases ro with
          | none => rfl
          | some r => simp [PC.flat] at hfl
        subst hro
        simp only [run] at h
        split at h
        · rename_i id as bs hv
          split at h
          · rename_i v1 σ1 hcall
            split at hcall
            · rename_i hlocs
              split at h
              · rename_i lp hlp
                split at h
                · cases h
                · rename_i hst
                  simp only [Option.some.injEq, Prod.mk.injEq] at h
                  obtain ⟨rfl, rfl, rfl⟩ := h
                  have hfv := ev_sound hid hat.frame hz hv
                  simp only [Rep] at hfv
                  obtain ⟨as', bs', e1, e2, e3⟩ := hfv
                  refine wpIn_rangeFunc fun fn _ => ?_
                  -- the block for deferred calls
                  obtain ⟨r1, s1⟩ := allocFree hat.real (.deferred (some []))
                  have hD : MarkAt Γ0 ⟨Γ.σ, Γ.μ, Γ.F, Γ.w.alloc (.deferred (some []))⟩ Γ.w.heap.size :=
                    ⟨hat.step.ext.size, heap_alloc_new _ _, fun l hl => by have := (hat.real.dom l _ hl).2; omega⟩
                  -- the record
                  obtain ⟨r2, s2⟩ := allocOb r1 (.loop ⟨fr, ps.toList, p, q, 0, none⟩) (.loop { state := .ready, pending := none, fn, tmps := a.tmps, params := ps, assign := x, body := y, defers := Γ.w.heap.size }) 0
                    (fun Γ' hΓ' hext => by
                      simp only [RepOb]
                      refine ⟨by rw [hΓ']; simp [grow], _, by rw [hΓ']; exact heap_alloc_new _ _, rfl, rfl, rfl, N, (hcr _ _ _).2 ⟨K, hp⟩, (hcr _ _ _).2 ⟨K, hq⟩, fun t ht => ?_, (hat.frame.ext s1.ext).ext hext, fun l hl => ?_⟩
                      · have := List.all_eq_true.1 hps t ht
                        simpa using this
                      · have := List.all_eq_true.1 hlocs l hl
                        have hlt : l < Γ.σ.length := by simpa using this
                        rw [hΓ']; simp; omega)
                    (fun h => absurd h (Nat.lt_irrefl _))
                  generalize hΓ2 : (⟨Γ.σ ++ [Ob.loop ⟨fr, ps.toList, p, q, 0, none⟩], bind Γ.μ Γ.σ.length (Γ.w.alloc (.deferred (some []))).heap.size, grow Γ.F (Γ.w.alloc (.deferred (some []))).heap.size 0,
                    (Γ.w.alloc (.deferred (some []))).alloc (.loop { state := .ready, pending := none, fn, tmps := a.tmps, params := ps, assign := x, body := y, defers := Γ.w.heap.size })⟩ : Ctx) = Γ2 at r2 s2
                  have hσ2 : Γ2.σ = Γ.σ ++ [Ob.loop ⟨fr, ps.toList, p, q, 0, none⟩] := by rw [← hΓ2]
                  have hw2 : Γ2.w = (Γ.w.alloc (.deferred (some []))).alloc (.loop { state := .ready, pending := none, fn, tmps := a.tmps, params := ps, assign := x, body := y, defers := Γ.w.heap.size }) := by rw [← hΓ2]
                  have hμ2 : Γ2.μ Γ.σ.length = some (Γ.w.heap.size + 1) := by rw [← hΓ2]; simp [bind]
                  have s12 := s1.trans s2
                  have hyl : Rep fid Γ2 (.yld Γ.σ.length) (.func (.yield (Γ.w.heap.size + 1)) #[] #[]) := by
                    simp only [Rep]
                    exact ⟨_, hμ2, rfl, .loop ⟨fr, ps.toList, p, q, 0, none⟩, by rw [hσ2]; simp, rfl⟩
                  have hargs : Reps fid Γ2 (as ++ (.yld Γ.σ.length :: bs)) (as' ++ (.func (.yield (Γ.w.heap.size + 1)) #[] #[] :: bs')) :=
                    Reps_cat (Reps.ext s12.ext _ _ e2) ⟨_, _, rfl, hyl, Reps.ext s12.ext _ _ e3⟩
                  rw [← hσ2] at hcall
                  obtain ⟨k1, k2⟩ := doCall_sound hC r2 hargs hcall
                  refine ⟨Γ.w.heap.size + 1, [mark Γ.w.heap.size], Γ2.w, { target := .fn (.func (fid id)) bs'.toArray, args := as'.toArray ++ #[.func (.yield (Γ.w.heap.size + 1)) #[] #[]] }, Γ2.w, fid id,
                    (as'.toArray ++ #[.func (.yield (Γ.w.heap.size + 1)) #[] #[]]) ++ bs'.toArray, Γ2.w, ?_, ?_, fun _ _ => trivial, ?_, fun h => by simp [Fence.wide] at h, ?_⟩
                  · rw [hw2]; exact run_enterLoop_outer _ _ _ _ _
                  · simp only [resolve, e1, Deferred.ofValue, Sem.run_pure]
                    rw [show Array.map a.eval #[Operand.const (Value.func (Fn.yield (Γ.w.heap.size + 1)) #[] #[])] = #[Value.func (Fn.yield (Γ.w.heap.size + 1)) #[] #[]] from by simp [Act.eval]]
                  · simp only [invoke]
                    exact run_callFunc k1 _ _
                  · have ha : (as'.toArray ++ #[Value.func (.yield (Γ.w.heap.size + 1)) #[] #[]]) ++ bs'.toArray = (as' ++ (Value.func (.yield (Γ.w.heap.size + 1)) #[] #[] :: bs')).toArray := by simp
                    rw [ha]
                    refine CallsIn.mono (F := FR none) k2 ?_
                    rintro e' w' ⟨Γ3, v3, rfl, rfl, rfl, r3, s3, _⟩
                    have hμ3 : Γ3.μ Γ.σ.length = some (Γ.w.heap.size + 1) := (s3.ext.fix _ (.loop ⟨fr, ps.toList, p, q, 0, none⟩) (by rw [hσ2]; simp) rfl).2 _ hμ2
                    obtain ⟨L, q1, _, q3, q4, _, q6⟩ := loop_rec r3 hlp hμ3
                    obtain ⟨r4, s4⟩ := q6 3 lp.pend .exhausted (lp.pend.map Ex.code) rfl rfl
                    refine ⟨L.pending, _, run_endLoop q1 (by rw [q3]; exact stOf_busy hst), ?_⟩
                    have hmarks : Marks Γ0 ⟨Γ3.σ.set Γ.σ.length (.loop { lp with st := 3, pend := lp.pend }), Γ3.μ, Γ3.F, Γ3.w.putObj (Γ.w.heap.size + 1) (.loop { L with state := .exhausted, pending := lp.pend.map Ex.code })⟩ ds0 ([mark Γ.w.heap.size] ++ a.defers) := by
                      obtain ⟨Ds, m1, m2, m3⟩ := hat.marks.step ((s12.trans s3).trans s4)
                      refine ⟨Γ.w.heap.size :: Ds, by simp [m1], List.nodup_cons.2 ⟨fun hmem => ?_, m2⟩, fun D hD' => ?_⟩
                      · obtain ⟨Ds0, n1, n2, n3⟩ := hat.marks
                        have : Ds = Ds0 := by
                          have he := m1.symm.trans n1
                          have := List.append_cancel_right he
                          exact (List.map_inj_right (fun x y h => by simpa [mark] using h)).1 this
                        subst this
                        exact absurd (heap_lt (n3 _ hmem).2.1) (Nat.lt_irrefl _)
                      · rcases List.mem_cons.1 hD' with rfl | hD'
                        · exact ((hD.step s2).step s3).step s4
                        · exact m3 D hD'
                    have hfin := hk ⟨Γ3.σ.set Γ.σ.length (.loop { lp with st := 3, pend := lp.pend }), Γ3.μ, Γ3.F, Γ3.w.putObj (Γ.w.heap.size + 1) (.loop { L with state := .exhausted, pending := lp.pend.map Ex.code })⟩
                      { a with defers := [mark Γ.w.heap.size] ++ a.defers } rfl ⟨r4, hat.step.trans ((s12.trans s3).trans s4), hmarks, hat.frame.ext ((s12.trans s3).trans s4).ext⟩
                    have hLe : ({ L with state := LoopState.exhausted } : Loop) = { L with state := .exhausted, pending := lp.pend.map Ex.code } := by rw [← q4]
                    rw [hLe, q4]
                    cases hpe : lp.pend with
                    | none => rw [hpe] at hfin; exact hfin
                    | some e' =>
                      rw [hpe] at hfin
                      cases e' with
                      | normal => exact wpIn_skip hfin
                      | exit id => exact wpIn_exit hfin
                      | ret => exact wpIn_ret hfin
              · cases h
            · cases hcall
          · cases h
        · cases h
      · cases hc
    · cases hc
  | .scope _, pc, hc, hfl, fr, e, fr', σ', Γ0, ds0, Γ, a, Q, h, hat, hk => by simp [comp] at hc
  | .label _, pc, hc, hfl, fr, e, fr', σ', Γ0, ds0, Γ, a, Q, h, hat, hk => by simp [comp] at hc
  | .goto _, pc, hc, hfl, fr, e, fr', σ', Γ0, ds0, Γ, a, Q, h, hat, hk => by simp [comp] at hc
  | .refuse _, pc, hc, hfl, fr, e, fr', σ', Γ0, ds0, Γ, a, Q, h, hat, hk => by simp [comp] at hc

/-! ## functions -/
theorem enterFr_get : ∀ {vs : List V} {i t : Nat} {v : V}, (enterFr i vs).get t = some v → i ≤ t ∧ vs[t - i]? = some v
  | [], i, t, v, h => by simp [enterFr, Fr.get] at h
  | u :: vs, i, t, v, h => by
    simp only [enterFr, Fr.get] at h
    split at h
    · rename_i e; subst e; cases h; simp
    · rename_i hne
      obtain ⟨h1, h2⟩ := enterFr_get h
      refine ⟨by omega, ?_⟩
      rw [show t - i = (t - (i + 1)) + 1 from by omega]
      simpa using h2
def resOne (tmps : Array Value) : ResultVar → Sem Value
  | .tmp t => pure (tmps.getD t undef)
  | .cell a t => do loadVar t (← asAddr (tmps.getD a undef))
theorem results_eq (fn : Func) (tmps : Array Value) : results fn tmps = (do
    let vs ← fn.results.mapM (resOne tmps)
    pure (if h : vs.size = 1 then vs[0] else .tuple vs)) := by
  unfold results
  congr 1
theorem run_results {N : Nat} {Γ : Ctx} (hr : Real fid Γ) {fr : Fr} {tmps : Array Value} (hf : FrRep fid Γ N fr tmps) : ∀ {rs : List ResultVar} {ps : List PR} {vs : List V}, cRes P N rs = some ps → resV fr Γ.σ ps = some vs →
    ∃ xs : List Value, (rs.mapM (resOne tmps)).run P Γ.w = .ok xs Γ.w ∧ Reps fid Γ vs xs
  | [], ps, vs, hc, h => by
    simp only [cRes, Option.some.injEq] at hc; subst hc
    simp only [resV, Option.some.injEq] at h; subst h
    exact ⟨[], by simp, rfl⟩
  | .tmp t :: rs, ps, vs, hc, h => by
    simp only [cRes] at hc
    split at hc
    · rename_i htN
      simp only [Option.map_eq_some_iff] at hc
      obtain ⟨ps', hps, rfl⟩ := hc
      simp only [resV] at h
      split at h
      · rename_i v vs' hv hvs
        cases h
        obtain ⟨xs, h1, h2⟩ := run_results hr hf hps hvs
        refine ⟨tmps.getD t undef :: xs, ?_, _, _, rfl, hf.2 t v htN hv, h2⟩
        simp only [List.mapM_cons, resOne, Sem.run_bind, Sem.run_pure, Result.andThen_ok]
        rw [h1]
        simp
      · cases h
    · cases hc
  | .cell t ty :: rs, ps, vs, hc, h => by
    simp only [cRes] at hc
    split at hc
    · rename_i htN
      have fin : ∀ {agg : Bool} {n : Nat} {ps'}, cRes P N rs = some ps' → ((agg = true ∧ isAggT P ty = some true ∧ sizeT P ty = some n) ∨ (agg = false ∧ isAggT P ty = some false ∧ n = 1)) → ps = .cell t agg n :: ps' →
          ∃ xs : List Value, ((ResultVar.cell t ty :: rs).mapM (resOne tmps)).run P Γ.w = .ok xs Γ.w ∧ Reps fid Γ vs xs := by
        intro agg n ps' hps hs hp
        subst hp
        simp only [resV] at h
        split at h
        · rename_i p hp
          split at h
          · rename_i v vs' hv hvs
            cases h
            obtain ⟨xs, h1, h2⟩ := run_results hr hf hps hvs
            obtain ⟨ad, y, e1, e2, e3⟩ := run_loadV hr hs (hf.2 t p htN hp) hv
            refine ⟨y :: xs, ?_, _, _, rfl, e3, h2⟩
            simp only [List.mapM_cons, resOne, Sem.run_bind, e1, asAddr, Sem.run_pure, Result.andThen_ok, e2]
            rw [h1]
            simp
          · cases h
        · cases h
      split at hc
      · rename_i n ps' h1 h2 h3; cases hc; exact fin h3 (.inl ⟨rfl, h1, h2⟩) rfl
      · rename_i ps' h1 h3; cases hc; exact fin h3 (.inr ⟨rfl, h1, rfl⟩) rfl
      · cases hc
    · cases hc
/-- A part that begins with the old objects goes on from where the old ones stood. -/
theorem step_part {Γ0 Γ1 : Ctx} (h : Step Γ0 Γ1) {L : List Nat} {σs : S} (hn : L.Nodup) (hlen : σs.length = L.length) (hren : Ren (idx L) (· ∈ L) Γ1 (Γ1.part L σs)) (hpre : ∀ i, i < Γ0.σ.length → L[i]? = some i) : Step Γ0 (Γ1.part L σs) := by
  have hμ : ∀ l, l < Γ0.σ.length → (Γ1.part L σs).μ l = Γ1.μ l := fun l hl => by simp only [Ctx.part, hpre l hl, Option.bind_some]
  have hσ : ∀ l ob, l < Γ0.σ.length → Γ1.σ[l]? = some ob → (Γ1.part L σs).σ[l]? = some (ob.ren (idx L)) := fun l ob hl ho => by
    have hm := List.mem_of_getElem? (hpre l hl)
    have := hren.σ l ob hm ho
    rw [idx_of_get hn (hpre l hl)] at this
    exact this
  refine ⟨⟨h.ext.size, h.ext.os, h.ext.tape, h.ext.output, h.ext.mono, h.ext.cell, h.ext.arr, ?_, fun l ob ho ht => ?_, fun l m ho => ?_⟩, ⟨h.frm.same, fun i b hi hb => ?_⟩, fun l hl hnn => by rw [hμ l hl]; exact h.non l hl hnn⟩
  · simp only [Ctx.part, hlen]
    rcases Nat.eq_zero_or_pos Γ0.σ.length with h0 | h0
    · omega
    · have := (List.getElem?_eq_some_iff.1 (hpre (Γ0.σ.length - 1) (by omega))).1
      omega
  · have hl := (List.getElem?_eq_some_iff.1 ho).1
    obtain ⟨⟨ob', h1, h2⟩, h3⟩ := h.ext.fix l ob ho ht
    exact ⟨⟨_, hσ l ob' hl h1, by rw [Ob.isTip_ren]; exact h2⟩, fun b hb => by rw [hμ l hl]; exact h3 b hb⟩
  · have hl := (List.getElem?_eq_some_iff.1 ho).1
    obtain ⟨m', h1, h2, h3, h4⟩ := h.ext.tip l m ho
    exact ⟨m', hσ l _ hl h1, h2, fun hs => by rw [hμ l hl]; exact h3 hs, fun e b hb => by rw [hμ l hl]; exact h4 e b hb⟩
  · simp only [Ctx.part] at hi
    cases hl : L[i]? with
    | none => rw [hl] at hi; cases hi
    | some l => rw [hl] at hi; exact h.frm.new l b hi hb
theorem renL_length (r : Nat → Nat) : ∀ vs, (renL r vs).length = vs.length
  | [] => rfl
  | v :: vs => by simp [renL, renL_length r vs]
theorem gcL_pre (k : Nat) (ls : List Nat) (σ : S) : ∀ i, i < k → (gcL k ls σ)[i]? = some i := fun i hi => by
  unfold gcL
  rw [List.getElem?_append_left (by simpa using hi)]
  simp [hi]
/-- The marks are taken off, at a function's end. -/
theorem leaves_marks {fn : Func} {R : Ending → World → Prop} {N : Nat} {fr : Fr} {tmps : Array Value} {Γ0 : Ctx} : ∀ (Ds : List Nat) (Γ1 : Ctx), Ds.Nodup → (∀ D ∈ Ds, MarkAt Γ0 Γ1 D) → Real fid Γ1 → Step Γ0 Γ1 → FrRep fid Γ1 N fr tmps →
    (∀ Γ', Γ'.σ = Γ1.σ → Real fid Γ' → Step Γ0 Γ' → FrRep fid Γ' N fr tmps → ∃ v, (results fn tmps).run P Γ'.w = .ok v Γ'.w ∧ R (.returned v) Γ'.w) →
    LeavesInM Fence.wide 0 P fn tmps R (Ds.map mark) .returning Γ1.w
  | [], Γ1, _, _, hr, hs, hf, hk => hk Γ1 rfl hr hs hf
  | D :: Ds, Γ1, hn, hD, hr, hs, hf, hk => by
    obtain ⟨n1, n2⟩ := List.nodup_cons.1 hn
    obtain ⟨d1, d2, d3⟩ := hD D (by simp)
    have hF : Γ1.F D = 0 := by
      rcases Nat.eq_zero_or_pos (Γ1.F D) with h | h
      · exact h
      · obtain ⟨arr, e, fz, h1, _⟩ := hr.imm D h
        rw [d2] at h1; cases h1
    have hother : ∀ k, k ≠ D → (Γ1.w.putObj D (.deferred none)).heap[k]? = Γ1.w.heap[k]? := fun k hk => World.putObj_heap_other hk
    have hext : Ext Γ1 ⟨Γ1.σ, Γ1.μ, Γ1.F, Γ1.w.putObj D (.deferred none)⟩ := by
      refine ⟨by simp, rfl, rfl, rfl, fun _ => Nat.le_refl _, fun b i v hi hv => ?_, fun b arr e hb ha => ⟨arr, ?_, rfl⟩, Nat.le_refl _, fun _ ob h ht => ⟨⟨ob, h, ht⟩, fun _ h => h⟩, fun _ m h => ⟨m, h, Nat.le_refl _, fun h => h, fun _ _ h => h⟩⟩
      · rw [cell?_of_block (hother b fun e => by subst e; omega)]; exact hv
      · rw [hother b fun e => by subst e; omega]; exact ha
    have hreal : Real fid ⟨Γ1.σ, Γ1.μ, Γ1.F, Γ1.w.putObj D (.deferred none)⟩ := by
      refine ⟨fun l ob b h1 h2 => RepOb.ext hext (hother b fun e => by subst e; exact d3 l h2) rfl ob (hr.obs l ob b h1 h2), fun l b h => ?_, hr.inj, fun b hb => ?_⟩
      · have := hr.dom l b h
        exact ⟨this.1, by simpa using this.2⟩
      · obtain ⟨a, t, fz, h1, h2⟩ := hr.imm b hb
        have hb' : 0 < Γ1.F b := hb
        exact ⟨a, t, fz, by rw [hother b fun e => by subst e; omega]; exact h1, h2⟩
    have hstep : Step Γ0 ⟨Γ1.σ, Γ1.μ, Γ1.F, Γ1.w.putObj D (.deferred none)⟩ := by
      refine ⟨hs.ext.trans hext, ⟨fun b hb hno => ?_, hs.frm.new⟩, hs.non⟩
      have := hs.frm.same b hb hno
      exact ⟨(hother b (by omega)).trans this.1, this.2⟩
    have ih := leaves_marks (fn := fn) (R := R) Ds ⟨Γ1.σ, Γ1.μ, Γ1.F, Γ1.w.putObj D (.deferred none)⟩ n2 (fun D' hD' => by
      obtain ⟨e1, e2, e3⟩ := hD D' (List.mem_cons_of_mem _ hD')
      exact ⟨e1, (hother D' fun e => by subst e; exact n1 hD').trans e2, e3⟩) hreal hstep (hf.ext hext) hk
    simp only [List.map_cons, LeavesInM]
    exact ⟨by simp, .inl ⟨D, _, rfl, run_takeDeferred d2, ih⟩⟩
theorem Codes.code {N : Nat} {c : Code} {pc : PC} (h : Codes P ids fid) (hc : fid.cr N c pc) : ∃ K, comp P ids N K c = some pc := (h N c pc).1 hc
theorem putAll_rep {N : Nat} {Γ : Ctx} : ∀ {ps : List Tmp} {vs : List V} {ys : List Value} {fr : Fr} {tmps : Array Value}, FrRep fid Γ N fr tmps → (∀ p ∈ ps, p < N) → Reps fid Γ vs ys →
    FrRep fid Γ N (putAll fr ps vs) ((ps.zip ys).foldl (fun t (p, v) => t.setIfInBounds p v) tmps)
  | [], vs, ys, fr, tmps, hf, _, _ => by cases vs <;> simpa [putAll] using hf
  | p :: ps, [], ys, fr, tmps, hf, _, hr => by simp only [Reps] at hr; subst hr; simpa [putAll] using hf
  | p :: ps, v :: vs, ys, fr, tmps, hf, hp, hr => by
    simp only [Reps] at hr
    obtain ⟨y, ys', rfl, h1, h2⟩ := hr
    simp only [putAll, List.zip_cons_cons, List.foldl_cons]
    refine putAll_rep ?_ (fun q hq => hp q (List.mem_cons_of_mem _ hq)) h2
    exact FrRep.put (a := { tmps := tmps, defers := [] }) (dst := some p) hf (fun d hd => by cases hd; exact hp p (by simp)) h1
/-- A round, run, is yield's call. -/
theorem round_sound (hid : Ties ids fid) (hcr : Codes P ids fid) (hC : CSound P fid C) (hL : LSound P ids fid C) (hm : P.follows .mixedOrders = true) {args : List V} {σ σ' : S} {v : V} (h : runRound C args σ = some (.ret v σ')) : SatRound P fid args σ v σ' := by
  intro Γ xs hσ hr hargs
  subst hσ
  unfold runRound at h
  split at h
  · rename_i l vs
    simp only [Reps] at hargs
    obtain ⟨x, ys, rfl, hy, hvs⟩ := hargs
    simp only [Rep] at hy
    obtain ⟨b, hb, rfl, _⟩ := hy
    split at h
    · rename_i lp hlp
      split at h
      · rename_i hcond
        obtain ⟨hlen, hst, hflat⟩ := hcond
        simp only [Bool.and_eq_true] at hflat
        obtain ⟨L, q1, q2, q3, _, ⟨N, c1, c2, c3, c4⟩, _⟩ := loop_rec hr hlp hb
        obtain ⟨K1, c1⟩ := hcr.code c1
        obtain ⟨K2, c2⟩ := hcr.code c2
        have hsz : ys.toArray.size = L.params.size := by
          have h1 := Reps.length hvs
          have h2 : L.params.toList.length = lp.ps.length := by rw [q2]
          simp at h2
          simp [h1, hlen, h2]
        refine ⟨l, b, ys, L.fn, _, L.assign, L.body, rfl, rfl, run_yield q1 hsz, ?_⟩
        split at h
        · rename_i fr1 σ1 hrun1
          split at h
          · rename_i lp1 hlp1
            split at h
            · rename_i hst1
              split at h
              · rename_i e fr2 σ2 hrun2
                split at h
                · rename_i lp2 hlp2
                  split at h
                  · rename_i vs3 σ3 hres
                    simp only [Option.some.injEq, Res.ret.injEq] at h
                    obtain ⟨rfl, rfl⟩ := h
                    have hfr : FrRep fid Γ N (putAll lp.fr lp.ps vs) ((L.params.zip ys.toArray).foldl (fun t (p, v) => t.setIfInBounds p v) L.tmps) := by
                      have := putAll_rep (ps := L.params.toList) (vs := vs) (ys := ys) c4 (by rw [q2]; exact c3) hvs
                      rw [q2] at this
                      rw [← Array.foldl_toList, Array.toList_zip, q2]
                      exact this
                    refine roundIn_of_wpIn (F := Fence.wide) trivial ?_
                    refine run_sound (ro := some b) hid hcr hC hL hm L.assign lp.assign c1 (fun _ => hflat.1) _ .normal fr1 σ1 Γ [] Γ _ _ hrun1 ⟨hr, .refl _, .nil _ _ _, hfr⟩ fun Γ1 a1 g1 g2 => ?_
                    subst g1
                    have hb1 : Γ1.μ l = some b := (g2.step.ext.fix l _ hlp rfl).2 b hb
                    obtain ⟨L1, u1, _, u3, _, _, u6⟩ := loop_rec g2.real hlp1 hb1
                    obtain ⟨r2, s2⟩ := u6 1 lp1.pend .busy (lp1.pend.map Ex.code) rfl rfl
                    have u4 : L1.pending = lp1.pend.map Ex.code := by
                      obtain ⟨L1', v1, _, _, v4, _⟩ := loop_rec g2.real hlp1 hb1
                      rw [u1] at v1; cases v1; exact v4
                    have hL1 : ({ L1 with state := LoopState.busy } : Loop) = { L1 with state := .busy, pending := lp1.pend.map Ex.code } := by rw [← u4]
                    refine ⟨_, run_beginRound u1 (by rw [u3, hst1]; rfl), ?_⟩
                    rw [hL1]
                    refine run_sound (ro := some b) hid hcr hC hL hm L.body lp.body c2 (fun _ => hflat.2) fr1 e fr2 σ2 Γ [] _ a1 _ hrun2 ⟨r2, g2.step.trans s2, g2.marks.step s2, g2.frame.ext s2.ext⟩ fun Γ3 a3 g3 g4 => ?_
                    subst g3
                    have hb3 : Γ3.μ l = some b := (g4.step.ext.fix l _ hlp rfl).2 b hb
                    obtain ⟨L3, w1, _, _, _, _, w6⟩ := loop_rec g4.real hlp2 hb3
                    -- the round's end, whichever way
                    have fin : ∀ (st : Nat) (pe : Option Ex) (j : Option Code) (bl : Bool), lp2.ended e = { lp2 with st := st, pend := pe } → j = pe.map Ex.code → bl = j.isNone → (if j.isNone then LoopState.ready else .done) = stOf st →
                        ∃ v w', (Instr.endRound b j).run P Γ3.w = .ok v w' ∧ ∃ Γ' x, Ending.returned v = .returned x ∧ Γ'.w = w' ∧ Γ'.σ = σ3 ∧ Real fid Γ' ∧ Step Γ Γ' ∧ Rep fid Γ' (.bool bl) x := by
                      intro st pe j bl he hj hbl hstt
                      subst hbl
                      obtain ⟨r4, s4⟩ := w6 st pe _ j hstt hj
                      rw [he] at hres
                      obtain ⟨t1, t2, t3, t4, t5, t6⟩ := restrict_sound r4 hres
                      refine ⟨_, _, run_endRound j w1, Ctx.part _ _ σ3, _, rfl, rfl, rfl, t5, step_part (g4.step.trans s4) t1 t2 t4 (gcL_pre _ _ _), ?_⟩
                      simp [Rep, RepD, noAgg]
                    cases e with
                    | normal => exact fin 0 none none true rfl rfl rfl rfl
                    | exit id => exact fin 2 (some (.exit id)) (some (.exit id)) false rfl rfl rfl rfl
                    | ret => exact fin 2 (some .ret) (some .ret) false rfl rfl rfl rfl
                  · cases h
                · cases h
              · cases h
            · cases h
          · cases h
        · cases h
      · cases h
    · cases h
  · cases h
/-- A function's body, run, is its call. -/
theorem body_sound (hid : Ties ids fid) (hcr : Codes P ids fid) (hC : CSound P fid C) (hL : LSound P ids fid C) (hm : P.follows .mixedOrders = true) {f : Nat} {fn : Func} {K : Nat → List Nat} {ns : Bool} {pf : PFun} (hfn : P.funcs[fid f]? = some fn) (hc : compF P ids K ns fn = some pf)
    {args : List V} {σ σ' : S} {v : V} (h : callBody C pf args σ = some (.ret v σ')) : SatCall P fid f args σ v σ' := by
  unfold compF at hc
  split at hc
  · rename_i c hbody
    split at hc
    · rename_i body rs hcomp hres
      split at hc
      · rename_i hcond
        cases hc
        unfold callBody at h
        split at h
        · rename_i hlen
          simp only at hlen
          have hname : (fn.name == "runtime.NumGoroutine") = false := by simpa using hcond.2
          refine ⟨⟨fn, hfn, hname, by rw [hbody]; rfl⟩, fun Γ xs hσ hr hargs => ?_⟩
          subst hσ
          have hxl := Reps.length hargs
          have hf0 : FrRep fid Γ fn.ntmps (enterFr 0 args) (xs.toArray ++ Array.replicate (fn.ntmps - xs.toArray.size) undef) := by
            refine ⟨by simp; omega, fun t u ht hu => ?_⟩
            obtain ⟨_, h2⟩ := enterFr_get hu
            obtain ⟨x, h3, h4⟩ := Reps_get hargs h2
            have : (xs.toArray ++ Array.replicate (fn.ntmps - xs.toArray.size) undef).getD t undef = x := by
              have hlt := (List.getElem?_eq_some_iff.1 h3).1
              rw [Array.getD_eq_getD_getElem?, Array.getElem?_append_left (by simpa using hlt)]
              simp only [Nat.sub_zero] at h3
              simp [h3]
            rw [this]; exact h4
          -- the end, whichever way
          have fin : ∀ (e : Ex) (fr' : Fr) (σ1 : S), (e = .normal ∨ e = .ret) → run C Γ.σ.length body (enterFr 0 args) Γ.σ = some (e, fr', σ1) → finish ⟨fn.params.size + fn.nfree, rs, body, ns⟩ Γ.σ.length fr' σ1 = some (.ret v σ') →
              CallsIn Fence.wide 0 P (fid f) xs.toArray Γ.w fun e w' => ∃ Γ' x, e = .returned x ∧ Γ'.w = w' ∧ Γ'.σ = σ' ∧ Real fid Γ' ∧ Step Γ Γ' ∧ Rep fid Γ' v x := by
            intro e fr' σ1 he hrun hfinish
            refine callsIn_of_wp_marks (F := Fence.wide) hfn hbody trivial ?_
            refine run_sound (ro := none) hid hcr hC hL hm c body hcomp (fun h => by simp at h) (enterFr 0 args) e fr' σ1 Γ [] Γ _ _ hrun ⟨hr, .refl _, .nil _ _ _, hf0⟩ fun Γ1 a1 g1 g2 => ?_
            subst g1
            obtain ⟨Ds, hDs, hDn, hDm⟩ := g2.marks
            have post : LeavesInM Fence.wide 0 P fn a1.tmps (fun e w' => ∃ Γ' x, e = .returned x ∧ Γ'.w = w' ∧ Γ'.σ = σ' ∧ Real fid Γ' ∧ Step Γ Γ' ∧ Rep fid Γ' v x) a1.defers .returning Γ1.w := by
              rw [hDs, List.append_nil]
              refine leaves_marks (Γ0 := Γ) Ds Γ1 hDn hDm g2.real g2.step g2.frame fun Γ2 k1 k2 k3 k4 => ?_
              rw [← k1] at hfinish
              clear hrun k1 hDm hDs hDn
              revert hfinish
              generalize Γ1.σ = dead
              intro hfinish
              unfold finish at hfinish
              split at hfinish
              · rename_i vs0 hvs0
                simp only at hfinish
                split at hfinish
                · rename_i vs' σs hrestrict
                  simp only [Option.some.injEq, Res.ret.injEq] at hfinish
                  obtain ⟨rfl, rfl⟩ := hfinish
                  obtain ⟨ys, r1, r2⟩ := run_results k2 k4 hres hvs0
                  have r2' : Reps fid Γ2 (if ns = true then vs0 else sealTL vs0) ys := by
                    split
                    · exact r2
                    · exact sealTVs r2
                  obtain ⟨t1, t2, t3, t4, t5, t6⟩ := restrict_sound k2 hrestrict
                  have r3 := t6 ys r2'
                  have hres' : (results fn a1.tmps).run P Γ2.w = .ok (if h : ys.length = 1 then ys[0] else .tuple ys.toArray) Γ2.w := by
                    rw [results_eq]
                    simp only [Sem.run_bind]
                    rw [Array.mapM_eq_mapM_toList]
                    simp only [Sem.run_map]
                    rw [r1]
                    simp only [Result.andThen_ok, Sem.run_pure]
                    simp
                  have hstep := step_part k3 t1 t2 t4 (gcL_pre _ _ _)
                  refine ⟨_, hres', Γ2.part _ σs, _, rfl, rfl, rfl, t5, hstep, ?_⟩
                  have hl := Reps.length r3
                  cases vs' with
                  | nil =>
                    simp only [Reps] at r3; subst r3
                    simp only [one, Rep]
                    exact ⟨[], by simp, rfl⟩
                  | cons v1 rest =>
                    cases rest with
                    | nil =>
                      simp only [Reps] at r3
                      obtain ⟨y, ys', rfl, k1, rfl⟩ := r3
                      simpa [one] using k1
                    | cons v2 rest =>
                      have : ¬ ys.length = 1 := by rw [hl]; simp
                      rw [dif_neg this]
                      simp only [one, Rep]
                      exact ⟨ys, rfl, r3⟩
                · cases hfinish
              · cases hfinish
            rcases he with rfl | rfl
            · exact post
            · exact post
          split at h
          · rename_i fr' σ1 hrun; exact fin .normal fr' σ1 (.inl rfl) hrun h
          · rename_i fr' σ1 hrun; exact fin .ret fr' σ1 (.inr rfl) hrun h
          · cases h
        · cases h
      · cases hc
    · cases hc
  · cases hc
end
/-- The abstract program, held against the given one. -/
def Tied (P : Program) (ids : FuncId → Option Nat) (fid : Fid) (prog : Nat → Option PFun) : Prop :=
  ∀ f pf, prog f = some pf → ∃ fn K ns, P.funcs[fid f]? = some fn ∧ compF P ids K ns fn = some pf
theorem callBody_ret {C : Task → Option Res} {pf : PFun} {args : List V} {σ : S} {r : Res} (h : callBody C pf args σ = some r) : ∃ v σ', r = .ret v σ' := by
  unfold callBody at h
  have fin : ∀ {k fr σ1}, finish pf k fr σ1 = some r → ∃ v σ', r = .ret v σ' := fun h => by
    unfold finish at h
    split at h
    · simp only at h
      split at h
      · cases h; exact ⟨_, _, rfl⟩
      · cases h
    · cases h
  split at h
  · split at h
    · exact fin h
    · exact fin h
    · cases h
  · cases h
theorem gcF_sound {N : Nat} {Γ0 Γ : Ctx} {ds0 : List Deferred} {fr fr1 : Fr} {σ1 : S} {a : Act} (hat : At fid N Γ0 ds0 fr Γ a) (h : gcF Γ0.σ.length fr Γ.σ = some (fr1, σ1)) :
    ∃ Γ1 : Ctx, Γ1.σ = σ1 ∧ Γ1.w = Γ.w ∧ At fid N Γ0 ds0 fr1 Γ1 a := by
  unfold gcF at h
  simp only at h
  split at h
  · rename_i vs σs hres
    split at h
    · rename_i hin
      simp only [Option.some.injEq, Prod.mk.injEq] at h
      obtain ⟨rfl, rfl⟩ := h
      obtain ⟨t1, t2, t3, t4, t5, t6⟩ := restrict_sound hat.real hres
      refine ⟨Γ.part _ σs, rfl, rfl, ⟨t5, step_part hat.step t1 t2 t4 (gcL_pre _ _ _), ?_, FrRep.ren t4 (inL_mem hin) hat.frame⟩⟩
      obtain ⟨Ds, h1, h2, h3⟩ := hat.marks
      refine ⟨Ds, h1, h2, fun D hD => ⟨(h3 D hD).1, (h3 D hD).2.1, fun l hl => ?_⟩⟩
      simp only [Ctx.part] at hl
      cases hl' : (gcL Γ0.σ.length (locsF fr) Γ.σ)[l]? with
      | none => rw [hl'] at hl; cases hl
      | some l' => rw [hl'] at hl; exact (h3 D hD).2.2 l' hl
    · cases h
  · cases h
theorem exec_sound (hid : Ties ids fid) (hcr : Codes P ids fid) (hm : P.follows .mixedOrders = true) {prog : Nat → Option PFun} (ht : Tied P ids fid prog) : ∀ n, CSound P fid (exec prog n) ∧ LSound P ids fid (exec prog n)
  | 0 => ⟨⟨fun f args σ v σ' h => by simp [exec] at h, fun args σ v σ' h => by simp [exec] at h⟩, fun k b fr σ e fr' σ' h => by simp [exec] at h⟩
  | n + 1 => by
    obtain ⟨hC, hL⟩ := exec_sound hid hcr hm ht n
    refine ⟨⟨fun f args σ v σ' h => ?_, fun args σ v σ' h => ?_⟩, fun k b fr σ e fr' σ' h => ?_⟩
    · simp only [exec] at h
      split at h
      · rename_i pf hpf
        obtain ⟨fn, K, ns, h1, h2⟩ := ht f pf hpf
        exact body_sound hid hcr hC hL hm h1 h2 h
      · cases h
    · simp only [exec] at h
      exact round_sound hid hcr hC hL hm h
    · simp only [exec] at h
      split at h
      · rename_i fr0 σ0 hgc
        split at h
        · rename_i fr1 σ1 hrun
          obtain ⟨m, hs⟩ := hL _ _ _ _ _ _ _ h
          refine ⟨m + 1, fun N K c ro hc hfl Γ0 ds0 Γ a Q hk0 hσ hat hk => ?_⟩
          subst hσ hk0
          obtain ⟨Γ', rfl, e2, hat'⟩ := gcF_sound hat hgc
          rw [roundsIn_succ, ← e2]
          refine run_sound hid hcr hC hL hm c b hc hfl fr0 .normal fr1 σ1 Γ0 ds0 Γ' a _ hrun hat' fun Γ1 a1 g1 g2 => ?_
          exact hs N K c ro hc hfl Γ0 ds0 Γ1 a1 Q rfl g1 g2 hk
        · rename_i e1 fr1 σ1 hne hrun
          simp only [Option.some.injEq, Res.out.injEq] at h
          obtain ⟨rfl, rfl, rfl⟩ := h
          refine ⟨1, fun N K c ro hc hfl Γ0 ds0 Γ a Q hk0 hσ hat hk => ?_⟩
          subst hσ hk0
          obtain ⟨Γ', rfl, e2, hat'⟩ := gcF_sound hat hgc
          rw [roundsIn_succ, ← e2]
          refine run_sound hid hcr hC hL hm c b hc hfl fr0 e1 fr1 σ1 Γ0 ds0 Γ' a _ hrun hat' fun Γ1 a1 g1 g2 => ?_
          have := hk Γ1 a1 g1 g2
          cases e1 with
          | normal => exact (hne rfl).elim
          | exit id => exact this
          | ret => exact this
        · cases h
      · cases h
end Go.Pm
