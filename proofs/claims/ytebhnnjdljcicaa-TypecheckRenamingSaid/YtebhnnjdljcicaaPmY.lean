/- The abstract program's meaning without fuel: equations to reckon with. -/
import Derived.Test.YtebhnnjdljcicaaPmR
set_option linter.unusedSimpArgs false
set_option linter.unusedVariables false
namespace Go.Pm

/-- One oracle says no less than another. -/
def Le (C C' : Task → Option Res) : Prop := ∀ t r, C t = some r → C' t = some r
section
variable {C C' : Task → Option Res}
theorem doCall_mono (h : Le C C') {f : List V → S → Task} {args : List V} {σ : S} {r : V × S} (hr : doCall C f args σ = some r) : doCall C' f args σ = some r := by
  unfold doCall at hr ⊢
  simp only at hr ⊢
  split at hr
  · rename_i a s hres
    split at hr
    · rename_i v s' hc
      simp only [h _ _ hc]
      exact hr
    · cases hr
  · cases hr
theorem runO_mono (h : Le C C') {fr : Fr} {σ : S} {op : O} {r : V × S} (hr : runO C fr σ op = some r) : runO C' fr σ op = some r := by
  cases op with
  | call f xs =>
    simp only [runO] at hr ⊢
    split at hr
    · exact doCall_mono h hr
    · cases hr
  | callv f xs =>
    simp only [runO] at hr ⊢
    split at hr
    · exact doCall_mono h hr
    · exact doCall_mono h hr
    · cases hr
  | _ => exact hr
theorem runOs_mono (h : Le C C') : ∀ {is : List I} {fr : Fr} {σ : S} {r : Fr × S}, runOs C is fr σ = some r → runOs C' is fr σ = some r
  | [], _, _, _, hr => hr
  | i :: is, fr, σ, r, hr => by
    simp only [runOs] at hr ⊢
    split at hr
    · rename_i hw
      split at hr
      · rename_i v σ' hv
        simp only [runO_mono h hv]
        exact runOs_mono h hr
      · cases hr
    · exact runOs_mono h hr
    · cases hr
theorem runLog_mono (h : Le C C') : ∀ {is : List I} {fr : Fr} {σ : S} {r : List Ev × Fr × S}, runLog C is fr σ = some r → runLog C' is fr σ = some r
  | [], _, _, _, hr => hr
  | i :: is, fr, σ, r, hr => by
    simp only [runLog] at hr ⊢
    split at hr
    · rename_i hw
      split at hr
      · rename_i v σ' hv
        simp only [runO_mono h hv]
        split at hr
        · rename_i l fr' σ'' hrest
          simp only [runLog_mono h hrest]; exact hr
        · cases hr
      · cases hr
    · split at hr
      · rename_i l fr' σ'' hrest
        simp only [runLog_mono h hrest]; exact hr
      · cases hr
    · cases hr
theorem run_mono (h : Le C C') {k : Nat} : ∀ {pc : PC} {fr : Fr} {σ : S} {r : Ex × Fr × S}, run C k pc fr σ = some r → run C' k pc fr σ = some r
  | .range f ps as bd, fr, σ, r, hr => by
    simp only [run] at hr ⊢
    split at hr
    · split at hr
      · rename_i v σ' hx
        split at hx
        · rename_i hl
          rw [if_pos hl]
          simp only [doCall_mono h hx]
          exact hr
        · cases hx
      · cases hr
    · cases hr
  | .skip, _, _, _, hr => hr
  | .exit _, _, _, _, hr => hr
  | .ret, _, _, _, hr => hr
  | .region none ops keep, fr, σ, r, hr => by
    simp only [run] at hr ⊢
    split at hr
    · rename_i fr' σ' hx; simp only [runOs_mono h hx]; exact hr
    · cases hr
  | .region (some rs) ops keep, fr, σ, r, hr => by
    simp only [run] at hr ⊢
    split at hr
    · rename_i es fr' σ' hx; simp only [runLog_mono h hx]; exact hr
    · cases hr
  | .seq a b, fr, σ, r, hr => by
    simp only [run] at hr ⊢
    split at hr
    · rename_i fr' σ' hx; simp only [run_mono h hx]; exact run_mono h hr
    · rename_i hne
      have := run_mono h hr
      rw [this]
      obtain ⟨e, fr', σ'⟩ := r
      cases e with
      | normal => exact absurd hr (hne _ _)
      | exit id => rfl
      | ret => rfl
  | .cond c a b, fr, σ, r, hr => by
    simp only [run] at hr ⊢
    split at hr
    · exact run_mono h hr
    · exact run_mono h hr
    · cases hr
  | .block id b, fr, σ, r, hr => by
    simp only [run] at hr ⊢
    split at hr
    · rename_i id' fr' σ' hx; simp only [run_mono h hx]; exact hr
    · rename_i hne
      have := run_mono h hr
      rw [this]
      obtain ⟨e, fr', σ'⟩ := r
      cases e with
      | normal => rfl
      | exit id => exact absurd hr (hne _ _ _)
      | ret => rfl
  | .loop b, fr, σ, r, hr => by
    simp only [run] at hr ⊢
    split at hr
    · rename_i e fr' σ' hx; simp only [h _ _ hx]; exact hr
    · cases hr
theorem runRound_mono (h : Le C C') {args : List V} {σ : S} {r : Res} (hr : runRound C args σ = some r) : runRound C' args σ = some r := by
  unfold runRound at hr ⊢
  split at hr
  · split at hr
    · split at hr
      · rename_i hlp hc
        simp only [if_pos hc]
        split at hr
        · rename_i fr1 σ1 hx
          simp only [run_mono h hx]
          split at hr
          · split at hr
            · rename_i hlp1 hst
              simp only [hlp1, if_pos hst]
              split at hr
              · rename_i e fr2 σ2 hy
                simp only [run_mono h hy]
                exact hr
              · cases hr
            · cases hr
          · cases hr
        · cases hr
      · cases hr
    · cases hr
  · cases hr
theorem callBody_mono (h : Le C C') {pf : PFun} {args : List V} {σ : S} {r : Res} (hr : callBody C pf args σ = some r) : callBody C' pf args σ = some r := by
  unfold callBody at hr ⊢
  split at hr
  · rename_i hl
    rw [if_pos hl]
    split at hr
    · rename_i fr σ' hx; simp only [run_mono h hx]; exact hr
    · rename_i fr σ' hx; simp only [run_mono h hx]; exact hr
    · cases hr
  · cases hr
end
variable {prog : Nat → Option PFun}
theorem exec_succ : ∀ n, Le (exec prog n) (exec prog (n + 1))
  | 0 => fun t r h => by simp [exec] at h
  | n + 1 => fun t r h => by
    have ih := exec_succ n
    cases t with
    | call f args σ =>
      simp only [exec] at h ⊢
      split at h
      · exact callBody_mono ih h
      · cases h
    | round args σ =>
      simp only [exec] at h ⊢
      exact runRound_mono ih h
    | loop k b fr σ =>
      simp only [exec] at h ⊢
      split at h
      · rename_i fr0 σ0 hg
        split at h
        · rename_i fr' σ' hx
          rw [run_mono ih hx]
          exact ih _ _ h
        · rename_i e fr' σ' hne hx
          rw [run_mono ih hx]
          cases e with
          | normal => exact absurd rfl hne
          | exit id => exact h
          | ret => exact h
        · cases h
      · cases h
theorem exec_le {m n : Nat} (h : m ≤ n) : Le (exec prog m) (exec prog n) := by
  induction n with
  | zero => have : m = 0 := by omega
            subst this; exact fun _ _ h => h
  | succ n ih =>
    rcases Nat.lt_or_ge n m with h' | h'
    · have : m = n + 1 := by omega
      subst this; exact fun _ _ h => h
    · exact fun t r ht => exec_succ n t r (ih h' t r ht)

open Classical in
/-- What a task comes to, if it comes to something. -/
noncomputable def Z (prog : Nat → Option PFun) (t : Task) : Option Res := if h : ∃ n r, exec prog n t = some r then exec prog (Classical.choose h) t else none
theorem Z_iff {t : Task} {r : Res} : Z prog t = some r ↔ ∃ n, exec prog n t = some r := by
  classical
  unfold Z
  constructor
  · intro h
    split at h
    · exact ⟨_, h⟩
    · cases h
  · rintro ⟨n, hn⟩
    have hex : ∃ n r, exec prog n t = some r := ⟨n, r, hn⟩
    rw [dif_pos hex]
    obtain ⟨r', hr'⟩ := Classical.choose_spec hex
    have h1 := exec_le (prog := prog) (Nat.le_max_left n (Classical.choose hex)) t r hn
    have h2 := exec_le (prog := prog) (Nat.le_max_right n (Classical.choose hex)) t r' hr'
    rw [h1] at h2
    rw [hr', h2]
theorem Z_of {n : Nat} {t : Task} {r : Res} (h : exec prog n t = some r) : Z prog t = some r := Z_iff.2 ⟨n, h⟩

/-! ## it is reached at some fuel -/
theorem doCall_at {f : List V → S → Task} {args : List V} {σ : S} {r : V × S} (hr : doCall (Z prog) f args σ = some r) : ∃ n, doCall (exec prog n) f args σ = some r := by
  unfold doCall at hr ⊢
  simp only at hr ⊢
  split at hr
  · split at hr
    · rename_i v s' hc
      obtain ⟨n, hn⟩ := Z_iff.1 hc
      exact ⟨n, by simp only [hn]; exact hr⟩
    · cases hr
  · cases hr
theorem runO_at {fr : Fr} {σ : S} {op : O} {r : V × S} (hr : runO (Z prog) fr σ op = some r) : ∃ n, runO (exec prog n) fr σ op = some r := by
  cases op with
  | call f xs =>
    simp only [runO] at hr ⊢
    split at hr
    · exact doCall_at hr
    · cases hr
  | callv f xs =>
    simp only [runO] at hr ⊢
    split at hr
    · exact doCall_at hr
    · exact doCall_at hr
    · cases hr
  | _ => exact ⟨0, hr⟩
theorem runOs_at : ∀ {is : List I} {fr : Fr} {σ : S} {r : Fr × S}, runOs (Z prog) is fr σ = some r → ∃ n, runOs (exec prog n) is fr σ = some r
  | [], _, _, _, hr => ⟨0, hr⟩
  | i :: is, fr, σ, r, hr => by
    simp only [runOs] at hr ⊢
    split at hr
    · rename_i hw
      split at hr
      · rename_i v σ' hv
        obtain ⟨n, hn⟩ := runO_at hv
        obtain ⟨m, hm⟩ := runOs_at hr
        refine ⟨max n m, ?_⟩
        simp only [runO_mono (exec_le (Nat.le_max_left n m)) hn]
        exact runOs_mono (exec_le (Nat.le_max_right n m)) hm
      · cases hr
    · exact runOs_at hr
    · cases hr
theorem runLog_at : ∀ {is : List I} {fr : Fr} {σ : S} {r : List Ev × Fr × S}, runLog (Z prog) is fr σ = some r → ∃ n, runLog (exec prog n) is fr σ = some r
  | [], _, _, _, hr => ⟨0, hr⟩
  | i :: is, fr, σ, r, hr => by
    simp only [runLog] at hr ⊢
    split at hr
    · rename_i hw
      split at hr
      · rename_i v σ' hv
        obtain ⟨n, hn⟩ := runO_at hv
        split at hr
        · rename_i l fr' σ'' hrest
          obtain ⟨m, hm⟩ := runLog_at hrest
          refine ⟨max n m, ?_⟩
          simp only [runO_mono (exec_le (Nat.le_max_left n m)) hn, runLog_mono (exec_le (Nat.le_max_right n m)) hm]
          exact hr
        · cases hr
      · cases hr
    · split at hr
      · rename_i l fr' σ'' hrest
        obtain ⟨m, hm⟩ := runLog_at hrest
        exact ⟨m, by simp only [hm]; exact hr⟩
      · cases hr
    · cases hr
theorem run_at {k : Nat} : ∀ {pc : PC} {fr : Fr} {σ : S} {r : Ex × Fr × S}, run (Z prog) k pc fr σ = some r → ∃ n, run (exec prog n) k pc fr σ = some r
  | .range f ps as bd, fr, σ, r, hr => by
    simp only [run] at hr ⊢
    split at hr
    · split at hr
      · rename_i v σ' hx
        split at hx
        · rename_i hl
          obtain ⟨n, hn⟩ := doCall_at hx
          exact ⟨n, by simp only [if_pos hl, hn]; exact hr⟩
        · cases hx
      · cases hr
    · cases hr
  | .skip, _, _, _, hr => ⟨0, hr⟩
  | .exit _, _, _, _, hr => ⟨0, hr⟩
  | .ret, _, _, _, hr => ⟨0, hr⟩
  | .region none ops keep, fr, σ, r, hr => by
    simp only [run] at hr ⊢
    split at hr
    · rename_i fr' σ' hx
      obtain ⟨n, hn⟩ := runOs_at hx
      exact ⟨n, by simp only [hn]; exact hr⟩
    · cases hr
  | .region (some rs) ops keep, fr, σ, r, hr => by
    simp only [run] at hr ⊢
    split at hr
    · rename_i es fr' σ' hx
      obtain ⟨n, hn⟩ := runLog_at hx
      exact ⟨n, by simp only [hn]; exact hr⟩
    · cases hr
  | .seq a b, fr, σ, r, hr => by
    simp only [run] at hr ⊢
    split at hr
    · rename_i fr' σ' hx
      obtain ⟨n, hn⟩ := run_at hx
      obtain ⟨m, hm⟩ := run_at hr
      refine ⟨max n m, ?_⟩
      simp only [run_mono (exec_le (Nat.le_max_left n m)) hn]
      exact run_mono (exec_le (Nat.le_max_right n m)) hm
    · rename_i hne
      obtain ⟨n, hn⟩ := run_at hr
      refine ⟨n, ?_⟩
      rw [hn]
      obtain ⟨e, fr', σ'⟩ := r
      cases e with
      | normal => exact absurd hr (hne _ _)
      | exit id => rfl
      | ret => rfl
  | .cond c a b, fr, σ, r, hr => by
    simp only [run] at hr ⊢
    split at hr
    · exact run_at hr
    · exact run_at hr
    · cases hr
  | .block id b, fr, σ, r, hr => by
    simp only [run] at hr ⊢
    split at hr
    · rename_i id' fr' σ' hx
      obtain ⟨n, hn⟩ := run_at hx
      exact ⟨n, by simp only [hn]; exact hr⟩
    · rename_i hne
      obtain ⟨n, hn⟩ := run_at hr
      refine ⟨n, ?_⟩
      rw [hn]
      obtain ⟨e, fr', σ'⟩ := r
      cases e with
      | normal => rfl
      | exit id => exact absurd hr (hne _ _ _)
      | ret => rfl
  | .loop b, fr, σ, r, hr => by
    simp only [run] at hr ⊢
    split at hr
    · rename_i e fr' σ' hx
      obtain ⟨n, hn⟩ := Z_iff.1 hx
      exact ⟨n, by simp only [hn]; exact hr⟩
    · cases hr
theorem Z_call {f : Nat} {pf : PFun} {args : List V} {σ : S} {r : Res} (hf : prog f = some pf) (h : callBody (Z prog) pf args σ = some r) : Z prog (.call f args σ) = some r := by
  have : ∃ n, callBody (exec prog n) pf args σ = some r := by
    unfold callBody at h ⊢
    split at h
    · rename_i hl
      simp only [if_pos hl]
      split at h
      · rename_i fr σ' hx
        obtain ⟨n, hn⟩ := run_at hx
        exact ⟨n, by simp only [hn]; exact h⟩
      · rename_i fr σ' hx
        obtain ⟨n, hn⟩ := run_at hx
        exact ⟨n, by simp only [hn]; exact h⟩
      · cases h
    · cases h
  obtain ⟨n, hn⟩ := this
  exact Z_of (n := n + 1) (by simp only [exec, hf, hn])
theorem Z_loop_next {k : Nat} {b : PC} {fr fr0 fr' : Fr} {σ σ0 σ' : S} {r : Res} (hg : gcF k fr σ = some (fr0, σ0)) (h : run (Z prog) k b fr0 σ0 = some (.normal, fr', σ')) (hr : Z prog (.loop k b fr' σ') = some r) : Z prog (.loop k b fr σ) = some r := by
  obtain ⟨n, hn⟩ := run_at h
  obtain ⟨m, hm⟩ := Z_iff.1 hr
  refine Z_of (n := max n m + 1) ?_
  simp only [exec, hg, run_mono (exec_le (Nat.le_max_left n m)) hn]
  exact exec_le (Nat.le_max_right n m) _ _ hm
theorem Z_loop_out {k : Nat} {b : PC} {fr fr0 fr' : Fr} {σ σ0 σ' : S} {e : Ex} (he : e ≠ .normal) (hg : gcF k fr σ = some (fr0, σ0)) (h : run (Z prog) k b fr0 σ0 = some (e, fr', σ')) : Z prog (.loop k b fr σ) = some (.out e fr' σ') := by
  obtain ⟨n, hn⟩ := run_at h
  refine Z_of (n := n + 1) ?_
  simp only [exec, hg, hn]
  all_goals (cases e with
    | normal => exact absurd rfl he
    | exit id => rfl
    | ret => rfl)
theorem Z_round {args : List V} {σ : S} {r : Res} (h : runRound (Z prog) args σ = some r) : Z prog (.round args σ) = some r := by
  have : ∃ n, runRound (exec prog n) args σ = some r := by
    unfold runRound at h ⊢
    split at h
    · split at h
      · split at h
        · rename_i hlp hc
          simp only [if_pos hc]
          split at h
          · rename_i fr1 σ1 hx
            obtain ⟨n, hn⟩ := run_at hx
            split at h
            · split at h
              · rename_i hlp1 hst
                split at h
                · rename_i e fr2 σ2 hy
                  obtain ⟨m, hm⟩ := run_at hy
                  refine ⟨max n m, ?_⟩
                  simp only [run_mono (exec_le (Nat.le_max_left n m)) hn, hlp1, if_pos hst, run_mono (exec_le (Nat.le_max_right n m)) hm]
                  exact h
                · cases h
              · cases h
            · cases h
          · cases h
        · cases h
      · cases h
    · cases h
  obtain ⟨n, hn⟩ := this
  exact Z_of (n := n + 1) (by simp only [exec, hn])

/-! ## what it says of the given program -/
variable {P : Program} {ids : FuncId → Option Nat} {fid : Fid}
/-- Every block of cells that lies there is taken for data that nobody changes. -/
def allF (w : World) : Nat → Nat := fun b => match w.heap[b]? with
  | some (.cells arr _ _) => arr.size
  | _ => 0
def start (w : World) : Ctx := ⟨[], fun _ => none, allF w, w⟩
theorem start_real (w : World) : Real fid (start w) := by
  refine ⟨fun l ob b h => by simp [start] at h, fun l b h => by simp [start] at h, fun l l' b h => by simp [start] at h, fun b hb => ?_⟩
  simp only [start, allF] at hb ⊢
  cases h : w.heap[b]? with
  | none => rw [h] at hb; simp at hb
  | some o =>
    rw [h] at hb
    cases o <;> simp only at hb <;> first | (exact absurd hb (Nat.lt_irrefl _)) | exact ⟨_, _, _, rfl, Nat.le_refl _⟩
theorem calls_of_Z (hid : Ties ids fid) (hcr : Codes P ids fid) (hm : P.follows .mixedOrders = true) (ht : Tied P ids fid prog) {f : Nat} {args : List V} {xs : List Value} {d : Value} {σ' : S} {w : World} (h : Z prog (.call f args []) = some (.ret (.dat (.lit d)) σ'))
    (ha : Reps fid (start w) args xs) : Calls P (fid f) xs.toArray w fun e w' => e = .returned d ∧ w'.os = w.os ∧ w'.tape = w.tape ∧ w'.output = w.output ∧ w.heap.size ≤ w'.heap.size ∧ ∀ k, k < w.heap.size → w'.heap[k]? = w.heap[k]? := by
  obtain ⟨n, hn⟩ := Z_iff.1 h
  obtain ⟨_, hs⟩ := (exec_sound hid hcr hm ht n).1.call _ _ _ _ _ hn
  refine (callsIn_wide.1 (hs (start w) xs rfl (start_real w) ha)).mono ?_
  rintro e w' ⟨Γ', x, rfl, rfl, _, _, h3, h4⟩
  refine ⟨by rw [(Rep_lit h4).1], h3.ext.os, h3.ext.tape, h3.ext.output, h3.ext.size, fun k hk => (h3.frm.same k hk fun l h => by simp [start] at h).1⟩
end Go.Pm
namespace Go.Pm
variable {prog : Nat → Option PFun}
theorem opt_ext {α : Type} {a b : Option α} (h : ∀ r, a = some r → b = some r) (k : ∀ r, b = some r → a = some r) : a = b := by
  cases a with
  | some r => exact (h r rfl).symm
  | none => cases b with
    | none => rfl
    | some r => exact k r rfl
theorem exec_Z {n : Nat} : Le (exec prog n) (Z prog) := fun _ _ h => Z_of h
/-- Calls and loops, as equations. -/
theorem Z_call_eq {f : Nat} {pf : PFun} (hf : prog f = some pf) (args : List V) (σ : S) : Z prog (.call f args σ) = callBody (Z prog) pf args σ := by
  refine opt_ext (fun r h => ?_) (fun r h => Z_call hf h)
  obtain ⟨n, hn⟩ := Z_iff.1 h
  cases n with
  | zero => simp [exec] at hn
  | succ n =>
    simp only [exec, hf] at hn
    exact callBody_mono exec_Z hn
def loopStep (C : Task → Option Res) (k : Nat) (b : PC) : Option (Fr × S) → Option Res
  | some (fr0, σ0) => match run C k b fr0 σ0 with
    | some (.normal, fr', σ') => C (.loop k b fr' σ')
    | some (e, fr', σ') => some (.out e fr' σ')
    | none => none
  | none => none
theorem Z_loop_eq (k : Nat) (b : PC) (fr : Fr) (σ : S) : Z prog (.loop k b fr σ) = loopStep (Z prog) k b (gcF k fr σ) := by
  refine opt_ext (fun r h => ?_) (fun r h => ?_)
  · obtain ⟨n, hn⟩ := Z_iff.1 h
    cases n with
    | zero => simp [exec] at hn
    | succ n =>
      simp only [exec] at hn
      split at hn
      · rename_i fr0 σ0 hg
        rw [hg]
        simp only [loopStep]
        split at hn
        · rename_i fr' σ' hx
          rw [run_mono exec_Z hx]
          exact Z_of hn
        · rename_i e fr' σ' hne hx
          rw [run_mono exec_Z hx]
          cases e with
          | normal => exact absurd rfl hne
          | exit id => exact hn
          | ret => exact hn
        · cases hn
      · cases hn
  · unfold loopStep at h
    split at h
    · rename_i fr0 σ0 hg
      split at h
      · rename_i fr' σ' hx
        exact Z_loop_next hg hx h
      · rename_i e fr' σ' hne hx
        simp only [Option.some.injEq] at h
        subst h
        exact Z_loop_out (fun he => hne he) hg hx
      · cases h
    · cases h
theorem Z_round_eq (args : List V) (σ : S) : Z prog (.round args σ) = runRound (Z prog) args σ := by
  refine opt_ext (fun r h => ?_) (fun r h => Z_round h)
  obtain ⟨n, hn⟩ := Z_iff.1 h
  cases n with
  | zero => simp [exec] at hn
  | succ n =>
    simp only [exec] at hn
    exact runRound_mono exec_Z hn
end Go.Pm
