/- The abstract program's meaning without fuel: equations to reckon with. Reckoning with the abstract machine: what simp may unfold; rows of numbers. -/
import Derived.Test.YtjdbkncfebebnaaDoorPmR
import Derived.IntWalk
set_option linter.unusedSimpArgs false
set_option linter.unusedVariables false
section SY
namespace Go.Pm

def Le (C C' : Task -> Option Res) : Prop := ∀ t r, C t = some r -> C' t = some r
section
variable {C C' : Task -> Option Res}
theorem doCall_mono (h : Le C C') {f : List V -> S -> Task} {args : List V} {σ : S} {r : V × S} (hr : doCall C f args σ = some r) : doCall C' f args σ = some r := by
 unfold doCall at hr ⊢
 simp only at hr ⊢
 split at hr
 · rename_i a s hres
   split at hr
   · cases hr
   · rename_i v s' hnp hc
     simp only [h _ _ hc]
     exact hr
   · cases hr
 · cases hr
theorem doCallP_mono (h : Le C C') {f : List V -> S -> Task} {args : List V} {σ : S} {r : V × S} (hr : doCallP C f args σ = some r) : doCallP C' f args σ = some r := by
 unfold doCallP at hr ⊢
 simp only at hr ⊢
 split at hr
 · rename_i a s hres
   split at hr
   · rename_i v s' hc
     simp only [h _ _ hc]
     exact hr
   · cases hr
 · cases hr
theorem runOP_mono (h : Le C C') {fr : Fr} {σ : S} {op : O} {r : V × S} (hr : runOP C fr σ op = some r) : runOP C' fr σ op = some r := by
 cases op with
 | call f xs =>
   simp only [runOP] at hr ⊢
   split at hr
   · exact doCallP_mono h hr
   · cases hr
 | callv f xs =>
   simp only [runOP] at hr ⊢
   split at hr
   · exact doCallP_mono h hr
   · exact doCallP_mono h hr
   · cases hr
 | invoke tbl x xs =>
   simp only [runOP] at hr ⊢
   split at hr
   · split at hr
     · exact doCallP_mono h hr
     · cases hr
   · cases hr
 | _ => exact hr
theorem runO_mono (h : Le C C') {fr : Fr} {σ : S} {op : O} {r : V × S} (hr : runO C fr σ op = some r) : runO C' fr σ op = some r := by
 cases op with
 | call f xs =>
   simp only [runO] at hr ⊢
   split at hr
   · exact doCall_mono h hr
   · cases hr
 | callv f xs =>
   simp only [runO] at hr ⊢
   split at hr
   · exact doCall_mono h hr
   · exact doCall_mono h hr
   · exact doCall_mono h hr
   · cases hr
 | invoke tbl x xs =>
   simp only [runO] at hr ⊢
   split at hr
   · split at hr
     · exact doCall_mono h hr
     · cases hr
   · cases hr
 | _ => exact hr
theorem runOs_mono (h : Le C C') : ∀ {is : List I} {fr : Fr} {σ : S} {r : Fr × S}, runOs C is fr σ = some r -> runOs C' is fr σ = some r
 | [], _, _, _, hr => hr
 | i :: is, fr, σ, r, hr => by
   simp only [runOs] at hr ⊢
   split at hr
   · rename_i hw
     split at hr
     · rename_i v σ' hv
       simp only [runO_mono h hv]
       exact runOs_mono h hr
     · cases hr
   · exact runOs_mono h hr
   · cases hr
theorem doCall_excl (h : Le C C') {f : List V -> S -> Task} {args : List V} {σ : S} {r : V × S} (hr : doCallP C f args σ = some r) : doCall C' f args σ = none := by
 unfold doCallP at hr
 unfold doCall
 simp only at hr ⊢
 split at hr
 · rename_i a s hres
   split at hr
   · rename_i v s' hc
     simp only [h _ _ hc]
   · cases hr
 · cases hr
theorem runO_excl (h : Le C C') {fr : Fr} {σ : S} {op : O} {r : V × S} (hr : runOP C fr σ op = some r) : runO C' fr σ op = none := by
 cases op with
 | call f xs =>
   simp only [runOP] at hr
   simp only [runO]
   split at hr
   · exact doCall_excl h hr
   · cases hr
 | callv f xs =>
   simp only [runOP] at hr
   simp only [runO]
   split at hr
   · rename_i h1 h2; simp only [h1, h2]; exact doCall_excl h hr
   · rename_i h1 h2; simp only [h1, h2]; exact doCall_excl h hr
   · cases hr
 | invoke tbl x xs =>
   simp only [runOP] at hr
   simp only [runO]
   split at hr
   · split at hr
     · exact doCall_excl h hr
     · cases hr
   · cases hr
 | panic x => rfl
 | _ => cases hr
theorem runOsP_mono (h : Le C C') : ∀ {is : List I} {fr : Fr} {σ : S} {r : V × Fr × S}, runOsP C is fr σ = some r -> runOsP C' is fr σ = some r /\ runOs C' is fr σ = none
 | [], _, _, _, hr => by simp [runOsP] at hr
 | i :: is, fr, σ, r, hr => by
   simp only [runOsP, runOs] at hr ⊢
   split at hr
   · rename_i hw
     split at hr
     · rename_i v σ' hv
       simp only [runO_mono h hv]
       exact runOsP_mono h hr
     · split at hr
       · rename_i v σ' hv
         simp only [runO_excl h hv, runOP_mono h hv]
         exact ⟨hr, trivial⟩
       · cases hr
   · exact runOsP_mono h hr
   · cases hr
theorem runLogP_mono (h : Le C C') : ∀ {is : List I} {q : Nat} {fr : Fr} {σ : S} {r : Nat × List Ev × V × S}, runLogP C q is fr σ = some r -> runLogP C' q is fr σ = some r /\ runLog C' is fr σ = none
 | [], _, _, _, _, hr => by simp [runLogP] at hr
 | i :: is, q, fr, σ, r, hr => by
   simp only [runLogP, runLog] at hr ⊢
   split at hr
   · rename_i hw
     split at hr
     · rename_i v σ' hv
       simp only [runO_mono h hv]
       split at hr
       · rename_i p l u σ'' hrest
         obtain ⟨h1, h2⟩ := runLogP_mono h hrest
         simp only [h1, h2]
         exact ⟨hr, trivial⟩
       · cases hr
     · split at hr
       · rename_i v σ' hv
         simp only [runO_excl h hv, runOP_mono h hv]
         exact ⟨hr, trivial⟩
       · cases hr
   · split at hr
     · rename_i p l u σ'' hrest
       obtain ⟨h1, h2⟩ := runLogP_mono h hrest
       simp only [h1, h2]
       exact ⟨hr, trivial⟩
     · cases hr
   · cases hr
theorem runLog_mono (h : Le C C') : ∀ {is : List I} {fr : Fr} {σ : S} {r : List Ev × Fr × S}, runLog C is fr σ = some r -> runLog C' is fr σ = some r
 | [], _, _, _, hr => hr
 | i :: is, fr, σ, r, hr => by
   simp only [runLog] at hr ⊢
   split at hr
   · rename_i hw
     split at hr
     · rename_i v σ' hv
       simp only [runO_mono h hv]
       split at hr
       · rename_i l fr' σ'' hrest
         simp only [runLog_mono h hrest]; exact hr
       · cases hr
     · cases hr
   · split at hr
     · rename_i l fr' σ'' hrest
       simp only [runLog_mono h hrest]; exact hr
     · cases hr
   · cases hr
theorem runTr_mono (h : Le C C') : ∀ {is : List I} {fr : Fr} {σ : S} {r : List (Fr × S)}, runTr C is fr σ = some r -> runTr C' is fr σ = some r
 | [], _, _, _, hr => hr
 | i :: is, fr, σ, r, hr => by
   simp only [runTr] at hr ⊢
   split at hr
   · rename_i hw
     split at hr
     · rename_i v σ' hv
       simp only [runO_mono h hv]
       split at hr
       · rename_i l hrest
         simp only [runTr_mono h hrest]; exact hr
       · cases hr
     · cases hr
   · split at hr
     · rename_i l hrest
       simp only [runTr_mono h hrest]; exact hr
     · cases hr
   · cases hr
theorem run_mono (h : Le C C') {k : Nat} : ∀ {pc : PC} {fr : Fr} {σ : S} {r : Ex × Fr × S}, run C k pc fr σ = some r -> run C' k pc fr σ = some r
 | .range f ps as bd, fr, σ, r, hr => by
   simp only [run] at hr ⊢
   split at hr
   · split at hr
     · rename_i v σ' hx
       split at hx
       · rename_i hl
         rw [if_pos hl]
         simp only [doCall_mono h hx]
         exact hr
       · cases hx
     · cases hr
   · cases hr
 | .skip, _, _, _, hr => hr
 | .exit _, _, _, _, hr => hr
 | .ret, _, _, _, hr => hr
 | .region none ops keep _, fr, σ, r, hr => by
   simp only [run] at hr ⊢
   split at hr
   · rename_i fr' σ' hx; simp only [runOs_mono h hx]; exact hr
   · split at hr
     · rename_i v fr' σ' hx
       obtain ⟨h1, h2⟩ := runOsP_mono h hx
       simp only [h1, h2]; exact hr
     · cases hr
 | .region (some rs) ops keep _, fr, σ, r, hr => by
   simp only [run] at hr ⊢
   split at hr
   · rename_i es fr' σ' hx
     simp only [runLog_mono h hx]
     split at hr
     · rename_i hc; rw [if_pos hc]; exact hr
     · rename_i hc
       rw [if_neg hc]
       split at hr
       · rename_i ss ht; simp only [runTr_mono h ht]; exact hr
       · cases hr
   · split at hr
     · rename_i p es v σ' hx
       obtain ⟨h1, h2⟩ := runLogP_mono h hx
       simp only [h1, h2]; exact hr
     · cases hr
 | .seq a b, fr, σ, r, hr => by
   simp only [run] at hr ⊢
   split at hr
   · rename_i fr' σ' hx; simp only [run_mono h hx]; exact run_mono h hr
   · rename_i hne
     have := run_mono h hr
     rw [this]
     obtain ⟨e, fr', σ'⟩ := r
     cases e with
     | normal => exact absurd hr (hne _ _)
     | exit id => rfl
     | ret => rfl
     | pan v => rfl
 | .cond c a b, fr, σ, r, hr => by
   simp only [run] at hr ⊢
   split at hr
   · exact run_mono h hr
   · exact run_mono h hr
   · cases hr
 | .block id b, fr, σ, r, hr => by
   simp only [run] at hr ⊢
   split at hr
   · rename_i id' fr' σ' hx; simp only [run_mono h hx]; exact hr
   · rename_i hne
     have := run_mono h hr
     rw [this]
     obtain ⟨e, fr', σ'⟩ := r
     cases e with
     | normal => rfl
     | exit id => exact absurd hr (hne _ _ _)
     | ret => rfl
     | pan v => rfl
 | .loop b, fr, σ, r, hr => by
   simp only [run] at hr ⊢
   split at hr
   · rename_i e fr' σ' hx; simp only [h _ _ hx]; exact hr
   · cases hr
theorem runRound_mono (h : Le C C') {args : List V} {σ : S} {r : Res} (hr : runRound C args σ = some r) : runRound C' args σ = some r := by
 unfold runRound at hr ⊢
 split at hr
 · split at hr
   · split at hr
     · rename_i hlp hc
       simp only [if_pos hc]
       split at hr
       · rename_i fr1 σ1 hx
         simp only [run_mono h hx]
         split at hr
         · split at hr
           · rename_i hlp1 hst
             simp only [hlp1, if_pos hst]
             split at hr
             · cases hr
             · rename_i e fr2 σ2 hnp hy
               simp only [run_mono h hy]
               cases e with
               | pan v => exact (hnp _ rfl).elim
               | normal => exact hr
               | exit id => exact hr
               | ret => exact hr
             · cases hr
           · cases hr
         · cases hr
       · cases hr
     · cases hr
   · cases hr
 · cases hr
theorem runDefers_mono (h : Le C C') : ∀ {l : List V} {σ : S} {r : S}, runDefers C l σ = some r -> runDefers C' l σ = some r
 | [], σ, r, hr => hr
 | v :: l, σ, r, hr => by
   unfold runDefers at hr ⊢
   split at hr
   · rename_i e; cases e
   · rename_i id a r' e
     cases e
     split at hr
     · rename_i v' σ' hc
       simp only [doCall_mono h hc]
       exact runDefers_mono h hr
     · cases hr
   · cases hr
theorem leave_mono (h : Le C C') {pf : PFun} {k : Nat} {fr : Fr} {σ : S} {r : Res} (hr : leave C pf k fr σ = some r) : leave C' pf k fr σ = some r := by
 unfold leave at hr ⊢
 split at hr
 · rename_i σ' hx; simp only [runDefers_mono h hx]; exact hr
 · cases hr
theorem leaveP_mono (h : Le C C') {pf : PFun} {k : Nat} {v : V} {fr : Fr} {σ : S} {r : Res} (hr : leaveP C pf k v fr σ = some r) : leaveP C' pf k v fr σ = some r := by
 unfold leaveP at hr ⊢
 split at hr
 · exact hr
 · split at hr
   · cases hr
   · rename_i hn
     rw [if_neg hn]
     split at hr
     · rename_i v' σ' hc
       simp only [doCall_mono h hc]
       split at hr
       · rename_i σ'' hx; simp only [runDefers_mono h hx]; exact hr
       · cases hr
     · cases hr
 · cases hr
theorem callBody_mono (h : Le C C') {pf : PFun} {args : List V} {σ : S} {r : Res} (hr : callBody C pf args σ = some r) : callBody C' pf args σ = some r := by
 have lv : ∀ {k fr σ}, (if pf.df then leave C pf k fr σ else finish pf k fr σ) = some r -> (if pf.df then leave C' pf k fr σ else finish pf k fr σ) = some r := fun hr => by
   split at hr
   · rename_i hd; rw [if_pos hd]; exact leave_mono h hr
   · rename_i hd; rw [if_neg hd]; exact hr
 unfold callBody at hr ⊢
 split at hr
 · rename_i hl
   rw [if_pos hl]
   split at hr
   · rename_i fr σ' hx; simp only [run_mono h hx]; exact lv hr
   · rename_i fr σ' hx; simp only [run_mono h hx]; exact lv hr
   · rename_i v fr σ' hx; simp only [run_mono h hx]; exact leaveP_mono h hr
   · cases hr
 · cases hr
theorem dcallBody_mono (h : Le C C') {pf : PFun} {args : List V} {σ : S} {r : Res} (hr : dcallBody C pf args σ = some r) : dcallBody C' pf args σ = some r := by
 unfold dcallBody at hr ⊢
 split at hr
 · split at hr
   · rename_i hl
     rw [if_pos hl]
     split at hr
     · rename_i fr σ' hx; simp only [run_mono h hx]; exact hr
     · rename_i fr σ' hx; simp only [run_mono h hx]; exact hr
     · cases hr
   · cases hr
 · cases hr
end
variable {prog : Nat -> Option PFun}
theorem exec_succ : ∀ n, Le (exec prog n) (exec prog (n + 1))
 | 0 => fun t r h => by simp [exec] at h
 | n + 1 => fun t r h => by
   have ih := exec_succ n
   cases t with
   | call f args σ =>
     simp only [exec] at h ⊢
     split at h
     · split at h
       · cases h
       · rename_i hc; rw [if_neg hc]; exact callBody_mono ih h
     · cases h
   | dcall f args σ =>
     simp only [exec] at h ⊢
     split at h
     · exact dcallBody_mono ih h
     · cases h
   | round args σ =>
     simp only [exec] at h ⊢
     exact runRound_mono ih h
   | loop k b fr σ =>
     simp only [exec] at h ⊢
     split at h
     · rename_i fr0 σ0 hg
       split at h
       · rename_i fr' σ' hx
         rw [run_mono ih hx]
         exact ih _ _ h
       · rename_i e fr' σ' hne hx
         rw [run_mono ih hx]
         cases e with
         | normal => exact absurd rfl hne
         | exit id => exact h
         | ret => exact h
         | pan v => exact h
       · cases h
     · cases h
theorem exec_le {m n : Nat} (h : m <= n) : Le (exec prog m) (exec prog n) := by
 induction n with
 | zero => have : m = 0 := by omega
           subst this; exact fun _ _ h => h
 | succ n ih =>
   rcases Nat.lt_or_ge n m with h' | h'
   · have : m = n + 1 := by omega
     subst this; exact fun _ _ h => h
   · exact fun t r ht => exec_succ n t r (ih h' t r ht)

open Classical in
noncomputable def Z (prog : Nat -> Option PFun) (t : Task) : Option Res := if h : ∃ n r, exec prog n t = some r then exec prog (Classical.choose h) t else none
theorem Z_iff {t : Task} {r : Res} : Z prog t = some r ↔ ∃ n, exec prog n t = some r := by
 classical
 unfold Z
 constructor
 · intro h
   split at h
   · exact ⟨_, h⟩
   · cases h
 · rintro ⟨n, hn⟩
   have hex : ∃ n r, exec prog n t = some r := ⟨n, r, hn⟩
   rw [dif_pos hex]
   obtain ⟨r', hr'⟩ := Classical.choose_spec hex
   have h1 := exec_le (prog := prog) (Nat.le_max_left n (Classical.choose hex)) t r hn
   have h2 := exec_le (prog := prog) (Nat.le_max_right n (Classical.choose hex)) t r' hr'
   rw [h1] at h2
   rw [hr', h2]
theorem Z_of {n : Nat} {t : Task} {r : Res} (h : exec prog n t = some r) : Z prog t = some r := Z_iff.2 ⟨n, h⟩

/-! ## it is reached at some fuel -/
theorem doCall_at {f : List V -> S -> Task} {args : List V} {σ : S} {r : V × S} (hr : doCall (Z prog) f args σ = some r) : ∃ n, doCall (exec prog n) f args σ = some r := by
 unfold doCall at hr ⊢
 simp only at hr ⊢
 split at hr
 · split at hr
   · cases hr
   · rename_i v s' hnp hc
     obtain ⟨n, hn⟩ := Z_iff.1 hc
     exact ⟨n, by simp only [hn]; exact hr⟩
   · cases hr
 · cases hr
theorem doCallP_at {f : List V -> S -> Task} {args : List V} {σ : S} {r : V × S} (hr : doCallP (Z prog) f args σ = some r) : ∃ n, doCallP (exec prog n) f args σ = some r := by
 unfold doCallP at hr ⊢
 simp only at hr ⊢
 split at hr
 · split at hr
   · rename_i v s' hc
     obtain ⟨n, hn⟩ := Z_iff.1 hc
     exact ⟨n, by simp only [hn]; exact hr⟩
   · cases hr
 · cases hr
theorem runOP_at {fr : Fr} {σ : S} {op : O} {r : V × S} (hr : runOP (Z prog) fr σ op = some r) : ∃ n, runOP (exec prog n) fr σ op = some r := by
 cases op with
 | call f xs =>
   simp only [runOP] at hr ⊢
   split at hr
   · exact doCallP_at hr
   · cases hr
 | callv f xs =>
   simp only [runOP] at hr ⊢
   split at hr
   · exact doCallP_at hr
   · exact doCallP_at hr
   · cases hr
 | invoke tbl x xs =>
   simp only [runOP] at hr ⊢
   split at hr
   · split at hr
     · exact doCallP_at hr
     · cases hr
   · cases hr
 | _ => exact ⟨0, hr⟩
theorem runO_at {fr : Fr} {σ : S} {op : O} {r : V × S} (hr : runO (Z prog) fr σ op = some r) : ∃ n, runO (exec prog n) fr σ op = some r := by
 cases op with
 | call f xs =>
   simp only [runO] at hr ⊢
   split at hr
   · exact doCall_at hr
   · cases hr
 | callv f xs =>
   simp only [runO] at hr ⊢
   split at hr
   · exact doCall_at hr
   · exact doCall_at hr
   · exact doCall_at hr
   · cases hr
 | invoke tbl x xs =>
   simp only [runO] at hr ⊢
   split at hr
   · split at hr
     · exact doCall_at hr
     · cases hr
   · cases hr
 | _ => exact ⟨0, hr⟩
theorem runOs_at : ∀ {is : List I} {fr : Fr} {σ : S} {r : Fr × S}, runOs (Z prog) is fr σ = some r -> ∃ n, runOs (exec prog n) is fr σ = some r
 | [], _, _, _, hr => ⟨0, hr⟩
 | i :: is, fr, σ, r, hr => by
   simp only [runOs] at hr ⊢
   split at hr
   · rename_i hw
     split at hr
     · rename_i v σ' hv
       obtain ⟨n, hn⟩ := runO_at hv
       obtain ⟨m, hm⟩ := runOs_at hr
       refine ⟨max n m, ?_⟩
       simp only [runO_mono (exec_le (Nat.le_max_left n m)) hn]
       exact runOs_mono (exec_le (Nat.le_max_right n m)) hm
     · cases hr
   · exact runOs_at hr
   · cases hr
theorem runLog_at : ∀ {is : List I} {fr : Fr} {σ : S} {r : List Ev × Fr × S}, runLog (Z prog) is fr σ = some r -> ∃ n, runLog (exec prog n) is fr σ = some r
 | [], _, _, _, hr => ⟨0, hr⟩
 | i :: is, fr, σ, r, hr => by
   simp only [runLog] at hr ⊢
   split at hr
   · rename_i hw
     split at hr
     · rename_i v σ' hv
       obtain ⟨n, hn⟩ := runO_at hv
       split at hr
       · rename_i l fr' σ'' hrest
         obtain ⟨m, hm⟩ := runLog_at hrest
         refine ⟨max n m, ?_⟩
         simp only [runO_mono (exec_le (Nat.le_max_left n m)) hn, runLog_mono (exec_le (Nat.le_max_right n m)) hm]
         exact hr
       · cases hr
     · cases hr
   · split at hr
     · rename_i l fr' σ'' hrest
       obtain ⟨m, hm⟩ := runLog_at hrest
       exact ⟨m, by simp only [hm]; exact hr⟩
     · cases hr
   · cases hr
theorem runTr_at : ∀ {is : List I} {fr : Fr} {σ : S} {r : List (Fr × S)}, runTr (Z prog) is fr σ = some r -> ∃ n, runTr (exec prog n) is fr σ = some r
 | [], _, _, _, hr => ⟨0, hr⟩
 | i :: is, fr, σ, r, hr => by
   simp only [runTr] at hr ⊢
   split at hr
   · rename_i hw
     split at hr
     · rename_i v σ' hv
       obtain ⟨n, hn⟩ := runO_at hv
       split at hr
       · rename_i l hrest
         obtain ⟨m, hm⟩ := runTr_at hrest
         refine ⟨max n m, ?_⟩
         simp only [runO_mono (exec_le (Nat.le_max_left n m)) hn, runTr_mono (exec_le (Nat.le_max_right n m)) hm]
         exact hr
       · cases hr
     · cases hr
   · split at hr
     · rename_i l hrest
       obtain ⟨m, hm⟩ := runTr_at hrest
       exact ⟨m, by simp only [hm]; exact hr⟩
     · cases hr
   · cases hr
theorem runOsP_at : ∀ {is : List I} {fr : Fr} {σ : S} {r : V × Fr × S}, runOsP (Z prog) is fr σ = some r -> ∃ n, runOsP (exec prog n) is fr σ = some r
 | [], _, _, _, hr => by simp [runOsP] at hr
 | i :: is, fr, σ, r, hr => by
   simp only [runOsP] at hr ⊢
   split at hr
   · rename_i hw
     split at hr
     · rename_i v σ' hv
       obtain ⟨n, hn⟩ := runO_at hv
       obtain ⟨m, hm⟩ := runOsP_at hr
       refine ⟨max n m, ?_⟩
       simp only [runO_mono (exec_le (Nat.le_max_left n m)) hn]
       exact (runOsP_mono (exec_le (Nat.le_max_right n m)) hm).1
     · split at hr
       · rename_i v σ' hv
         obtain ⟨n, hn⟩ := runOP_at hv
         exact ⟨n, by simp only [runO_excl (fun _ _ h => h) hn, hn]; exact hr⟩
       · cases hr
   · exact runOsP_at hr
   · cases hr
theorem runLogP_at : ∀ {is : List I} {q : Nat} {fr : Fr} {σ : S} {r : Nat × List Ev × V × S}, runLogP (Z prog) q is fr σ = some r -> ∃ n, runLogP (exec prog n) q is fr σ = some r
 | [], _, _, _, _, hr => by simp [runLogP] at hr
 | i :: is, q, fr, σ, r, hr => by
   simp only [runLogP] at hr ⊢
   split at hr
   · rename_i hw
     split at hr
     · rename_i v σ' hv
       obtain ⟨n, hn⟩ := runO_at hv
       split at hr
       · rename_i p l u σ'' hrest
         obtain ⟨m, hm⟩ := runLogP_at hrest
         refine ⟨max n m, ?_⟩
         simp only [runO_mono (exec_le (Nat.le_max_left n m)) hn, (runLogP_mono (exec_le (Nat.le_max_right n m)) hm).1]
         exact hr
       · cases hr
     · split at hr
       · rename_i v σ' hv
         obtain ⟨n, hn⟩ := runOP_at hv
         exact ⟨n, by simp only [runO_excl (fun _ _ h => h) hn, hn]; exact hr⟩
       · cases hr
   · split at hr
     · rename_i p l u σ'' hrest
       obtain ⟨m, hm⟩ := runLogP_at hrest
       exact ⟨m, by simp only [hm]; exact hr⟩
     · cases hr
   · cases hr
theorem run_at {k : Nat} : ∀ {pc : PC} {fr : Fr} {σ : S} {r : Ex × Fr × S}, run (Z prog) k pc fr σ = some r -> ∃ n, run (exec prog n) k pc fr σ = some r
 | .range f ps as bd, fr, σ, r, hr => by
   simp only [run] at hr ⊢
   split at hr
   · split at hr
     · rename_i v σ' hx
       split at hx
       · rename_i hl
         obtain ⟨n, hn⟩ := doCall_at hx
         exact ⟨n, by simp only [if_pos hl, hn]; exact hr⟩
       · cases hx
     · cases hr
   · cases hr
 | .skip, _, _, _, hr => ⟨0, hr⟩
 | .exit _, _, _, _, hr => ⟨0, hr⟩
 | .ret, _, _, _, hr => ⟨0, hr⟩
 | .region none ops keep _, fr, σ, r, hr => by
   simp only [run] at hr ⊢
   split at hr
   · rename_i fr' σ' hx
     obtain ⟨n, hn⟩ := runOs_at hx
     exact ⟨n, by simp only [hn]; exact hr⟩
   · split at hr
     · rename_i v fr' σ' hx
       obtain ⟨n, hn⟩ := runOsP_at hx
       exact ⟨n, by simp only [hn, (runOsP_mono (fun _ _ h => h) hn).2]; exact hr⟩
     · cases hr
 | .region (some rs) ops keep _, fr, σ, r, hr => by
   simp only [run] at hr ⊢
   split at hr
   · rename_i es fr' σ' hx
     obtain ⟨n, hn⟩ := runLog_at hx
     split at hr
     · rename_i hc; exact ⟨n, by simp only [hn]; rw [if_pos hc]; exact hr⟩
     · rename_i hc
       split at hr
       · rename_i ss ht
         obtain ⟨m, hm⟩ := runTr_at ht
         refine ⟨max n m, ?_⟩
         simp only [runLog_mono (exec_le (Nat.le_max_left n m)) hn, runTr_mono (exec_le (Nat.le_max_right n m)) hm]
         rw [if_neg hc]; exact hr
       · cases hr
   · split at hr
     · rename_i p es v σ' hx
       obtain ⟨n, hn⟩ := runLogP_at hx
       exact ⟨n, by simp only [hn, (runLogP_mono (fun _ _ h => h) hn).2]; exact hr⟩
     · cases hr
 | .seq a b, fr, σ, r, hr => by
   simp only [run] at hr ⊢
   split at hr
   · rename_i fr' σ' hx
     obtain ⟨n, hn⟩ := run_at hx
     obtain ⟨m, hm⟩ := run_at hr
     refine ⟨max n m, ?_⟩
     simp only [run_mono (exec_le (Nat.le_max_left n m)) hn]
     exact run_mono (exec_le (Nat.le_max_right n m)) hm
   · rename_i hne
     obtain ⟨n, hn⟩ := run_at hr
     refine ⟨n, ?_⟩
     rw [hn]
     obtain ⟨e, fr', σ'⟩ := r
     cases e with
     | normal => exact absurd hr (hne _ _)
     | exit id => rfl
     | ret => rfl
     | pan v => rfl
 | .cond c a b, fr, σ, r, hr => by
   simp only [run] at hr ⊢
   split at hr
   · exact run_at hr
   · exact run_at hr
   · cases hr
 | .block id b, fr, σ, r, hr => by
   simp only [run] at hr ⊢
   split at hr
   · rename_i id' fr' σ' hx
     obtain ⟨n, hn⟩ := run_at hx
     exact ⟨n, by simp only [hn]; exact hr⟩
   · rename_i hne
     obtain ⟨n, hn⟩ := run_at hr
     refine ⟨n, ?_⟩
     rw [hn]
     obtain ⟨e, fr', σ'⟩ := r
     cases e with
     | normal => rfl
     | exit id => exact absurd hr (hne _ _ _)
     | ret => rfl
     | pan v => rfl
 | .loop b, fr, σ, r, hr => by
   simp only [run] at hr ⊢
   split at hr
   · rename_i e fr' σ' hx
     obtain ⟨n, hn⟩ := Z_iff.1 hx
     exact ⟨n, by simp only [hn]; exact hr⟩
   · cases hr
theorem runDefers_at : ∀ {l : List V} {σ : S} {r : S}, runDefers (Z prog) l σ = some r -> ∃ n, runDefers (exec prog n) l σ = some r
 | [], σ, r, hr => ⟨0, hr⟩
 | v :: l, σ, r, hr => by
   unfold runDefers at hr ⊢
   split at hr
   · rename_i e; cases e
   · rename_i id a r' e
     cases e
     split at hr
     · rename_i v' σ' hc
       obtain ⟨n, hn⟩ := doCall_at hc
       obtain ⟨m, hm⟩ := runDefers_at hr
       refine ⟨max n m, ?_⟩
       simp only [doCall_mono (exec_le (Nat.le_max_left n m)) hn]
       exact runDefers_mono (exec_le (Nat.le_max_right n m)) hm
     · cases hr
   · cases hr
theorem leave_at {pf : PFun} {k : Nat} {fr : Fr} {σ : S} {r : Res} (hr : (if pf.df then leave (Z prog) pf k fr σ else finish pf k fr σ) = some r) : ∃ n, (if pf.df then leave (exec prog n) pf k fr σ else finish pf k fr σ) = some r := by
 split at hr
 · rename_i hd
   simp only [if_pos hd]
   unfold leave at hr ⊢
   split at hr
   · rename_i σ' hx
     obtain ⟨n, hn⟩ := runDefers_at hx
     exact ⟨n, by simp only [hn]; exact hr⟩
   · cases hr
 · rename_i hd
   simp only [if_neg hd]
   exact ⟨0, hr⟩
theorem leaveP_at {pf : PFun} {k : Nat} {v : V} {fr : Fr} {σ : S} {r : Res} (hr : leaveP (Z prog) pf k v fr σ = some r) : ∃ n, leaveP (exec prog n) pf k v fr σ = some r := by
 unfold leaveP at hr ⊢
 split at hr
 · exact ⟨0, hr⟩
 · split at hr
   · cases hr
   · rename_i hn
     simp only [if_neg hn]
     split at hr
     · rename_i v' σ' hc
       obtain ⟨n, hn⟩ := doCall_at hc
       split at hr
       · rename_i σ'' hx
         obtain ⟨m, hm⟩ := runDefers_at hx
         refine ⟨max n m, ?_⟩
         simp only [doCall_mono (exec_le (Nat.le_max_left n m)) hn, runDefers_mono (exec_le (Nat.le_max_right n m)) hm]
         exact hr
       · cases hr
     · cases hr
 · cases hr
theorem callBody_at {pf : PFun} {args : List V} {σ : S} {r : Res} (h : callBody (Z prog) pf args σ = some r) : ∃ n, callBody (exec prog n) pf args σ = some r := by
 have lv : ∀ {n m k fr σ}, (if pf.df then leave (exec prog m) pf k fr σ else finish pf k fr σ) = some r -> m <= n -> (if pf.df then leave (exec prog n) pf k fr σ else finish pf k fr σ) = some r := fun hr hle => by
   split at hr
   · rename_i hd; rw [if_pos hd]; exact leave_mono (exec_le hle) hr
   · rename_i hd; rw [if_neg hd]; exact hr
 unfold callBody at h ⊢
 split at h
 · rename_i hl
   simp only [if_pos hl]
   split at h
   · rename_i fr σ' hx
     obtain ⟨n, hn⟩ := run_at hx
     obtain ⟨m, hm⟩ := leave_at h
     refine ⟨max n m, ?_⟩
     simp only [run_mono (exec_le (Nat.le_max_left n m)) hn]
     exact lv hm (Nat.le_max_right n m)
   · rename_i fr σ' hx
     obtain ⟨n, hn⟩ := run_at hx
     obtain ⟨m, hm⟩ := leave_at h
     refine ⟨max n m, ?_⟩
     simp only [run_mono (exec_le (Nat.le_max_left n m)) hn]
     exact lv hm (Nat.le_max_right n m)
   · rename_i v fr σ' hx
     obtain ⟨n, hn⟩ := run_at hx
     obtain ⟨m, hm⟩ := leaveP_at h
     refine ⟨max n m, ?_⟩
     simp only [run_mono (exec_le (Nat.le_max_left n m)) hn]
     exact leaveP_mono (exec_le (Nat.le_max_right n m)) hm
   · cases h
 · cases h
theorem Z_call {f : Nat} {pf : PFun} {args : List V} {σ : S} {r : Res} (hf : prog f = some pf) (hc : pf.catches = false) (h : callBody (Z prog) pf args σ = some r) : Z prog (.call f args σ) = some r := by
 obtain ⟨n, hn⟩ := callBody_at h
 exact Z_of (n := n + 1) (by simp only [exec, hf, hc, Bool.false_eq_true, if_false, hn])
theorem Z_dcall {f : Nat} {pf : PFun} {args : List V} {σ : S} {r : Res} (hf : prog f = some pf) (h : dcallBody (Z prog) pf args σ = some r) : Z prog (.dcall f args σ) = some r := by
 have : ∃ n, dcallBody (exec prog n) pf args σ = some r := by
   unfold dcallBody at h ⊢
   split at h
   · split at h
     · rename_i hl
       simp only [if_pos hl]
       split at h
       · rename_i fr σ' hx
         obtain ⟨n, hn⟩ := run_at hx
         exact ⟨n, by simp only [hn]; exact h⟩
       · rename_i fr σ' hx
         obtain ⟨n, hn⟩ := run_at hx
         exact ⟨n, by simp only [hn]; exact h⟩
       · cases h
     · cases h
   · cases h
 obtain ⟨n, hn⟩ := this
 exact Z_of (n := n + 1) (by simp only [exec, hf, hn])
theorem Z_loop_next {k : Nat} {b : PC} {fr fr0 fr' : Fr} {σ σ0 σ' : S} {r : Res} (hg : gcF k fr σ = some (fr0, σ0)) (h : run (Z prog) k b fr0 σ0 = some (.normal, fr', σ')) (hr : Z prog (.loop k b fr' σ') = some r) : Z prog (.loop k b fr σ) = some r := by
 obtain ⟨n, hn⟩ := run_at h
 obtain ⟨m, hm⟩ := Z_iff.1 hr
 refine Z_of (n := max n m + 1) ?_
 simp only [exec, hg, run_mono (exec_le (Nat.le_max_left n m)) hn]
 exact exec_le (Nat.le_max_right n m) _ _ hm
theorem Z_loop_out {k : Nat} {b : PC} {fr fr0 fr' : Fr} {σ σ0 σ' : S} {e : Ex} (he : e ≠ .normal) (hg : gcF k fr σ = some (fr0, σ0)) (h : run (Z prog) k b fr0 σ0 = some (e, fr', σ')) : Z prog (.loop k b fr σ) = some (.out e fr' σ') := by
 obtain ⟨n, hn⟩ := run_at h
 refine Z_of (n := n + 1) ?_
 simp only [exec, hg, hn]
 all_goals (cases e with
   | normal => exact absurd rfl he
   | exit id => rfl
   | ret => rfl
   | pan v => rfl)
theorem Z_round {args : List V} {σ : S} {r : Res} (h : runRound (Z prog) args σ = some r) : Z prog (.round args σ) = some r := by
 have : ∃ n, runRound (exec prog n) args σ = some r := by
   unfold runRound at h ⊢
   split at h
   · split at h
     · split at h
       · rename_i hlp hc
         simp only [if_pos hc]
         split at h
         · rename_i fr1 σ1 hx
           obtain ⟨n, hn⟩ := run_at hx
           split at h
           · split at h
             · rename_i hlp1 hst
               split at h
               · cases h
               · rename_i e fr2 σ2 hnp hy
                 obtain ⟨m, hm⟩ := run_at hy
                 refine ⟨max n m, ?_⟩
                 simp only [run_mono (exec_le (Nat.le_max_left n m)) hn, hlp1, if_pos hst, run_mono (exec_le (Nat.le_max_right n m)) hm]
                 cases e with
                 | pan v => exact (hnp _ rfl).elim
                 | normal => exact h
                 | exit id => exact h
                 | ret => exact h
               · cases h
             · cases h
           · cases h
         · cases h
       · cases h
     · cases h
   · cases h
 obtain ⟨n, hn⟩ := this
 exact Z_of (n := n + 1) (by simp only [exec, hn])

/-! ## what it says of the given program -/
variable {P : Program} {ids : Ids} {fid : Fid}
def allF (w : World) : Nat -> Nat := fun b => match w.heap[b]? with
 | some (.cells arr _ _) => arr.size
 | _ => 0
def start (w : World) : Ctx := ⟨[], fun _ => none, allF w, w⟩
def GlbAt (fid : Fid) (w : World) : Prop := ∀ g cs, fid.gl g = some cs -> ∃ vs, RepDs (allF w) w cs vs /\ Row (allF w) w g 0 vs
theorem start_real {w : World} (hg : GlbAt fid w) : Real fid (start w) := by
 refine ⟨fun l ob b h => by simp [start] at h, fun l b h => by simp [start] at h, fun l l' b h => by simp [start] at h, fun b hb => ?_, hg⟩
 simp only [start, allF] at hb ⊢
 cases h : w.heap[b]? with
 | none => rw [h] at hb; simp at hb
 | some o =>
   rw [h] at hb
   cases o <;> simp only at hb <;> first | (exact absurd hb (Nat.lt_irrefl _)) | exact ⟨_, _, _, rfl, Nat.le_refl _⟩
theorem calls_of_Z (hid : Ties P ids fid) (hcr : Codes P ids fid) (hm : P.follows .mixedOrders = true) (ht : Tied P ids fid prog) {f : Nat} {args : List V} {xs : List Value} {d : Value} {σ' : S} {w : World} (h : Z prog (.call f args []) = some (.ret (.dat (.lit d)) σ')) (hg : GlbAt fid w)
   (ha : Reps fid (start w) args xs) : Calls P (fid f) xs.toArray w fun e w' => e = .returned d /\ w'.os = w.os /\ w'.tape = w.tape /\ w'.output = w.output /\ w.heap.size <= w'.heap.size /\ ∀ k, k < w.heap.size -> w'.heap[k]? = w.heap[k]? := by
 obtain ⟨n, hn⟩ := Z_iff.1 h
 obtain ⟨_, hs⟩ := (exec_sound hid hcr hm ht n).1.call _ _ _ _ _ hn
 refine (callsIn_wide.1 (hs (start w) xs rfl (start_real hg) ha)).mono ?_
 rintro e w' ⟨Γ', rfl, _, _, h3, hout⟩
 rcases hout with ⟨x, rfl, h4⟩ | ⟨u, x, hu, _⟩
 rotate_left
 · cases hu
 refine ⟨by rw [(Rep_lit h4).1], h3.ext.os, h3.ext.tape, h3.ext.output, h3.ext.size, fun k hk => (h3.frm.same k hk fun l h => by simp [start] at h).1⟩
end Go.Pm
namespace Go.Pm
variable {prog : Nat -> Option PFun}
theorem opt_ext {α : Type} {a b : Option α} (h : ∀ r, a = some r -> b = some r) (k : ∀ r, b = some r -> a = some r) : a = b := by
 cases a with
 | some r => exact (h r rfl).symm
 | none => cases b with
   | none => rfl
   | some r => exact k r rfl
theorem exec_Z {n : Nat} : Le (exec prog n) (Z prog) := fun _ _ h => Z_of h
def loopStep (C : Task -> Option Res) (k : Nat) (b : PC) : Option (Fr × S) -> Option Res
 | some (fr0, σ0) => match run C k b fr0 σ0 with
   | some (.normal, fr', σ') => C (.loop k b fr' σ')
   | some (e, fr', σ') => some (.out e fr' σ')
   | none => none
 | none => none
theorem Z_loop_eq (k : Nat) (b : PC) (fr : Fr) (σ : S) : Z prog (.loop k b fr σ) = loopStep (Z prog) k b (gcF k fr σ) := by
 refine opt_ext (fun r h => ?_) (fun r h => ?_)
 · obtain ⟨n, hn⟩ := Z_iff.1 h
   cases n with
   | zero => simp [exec] at hn
   | succ n =>
     simp only [exec] at hn
     split at hn
     · rename_i fr0 σ0 hg
       rw [hg]
       simp only [loopStep]
       split at hn
       · rename_i fr' σ' hx
         rw [run_mono exec_Z hx]
         exact Z_of hn
       · rename_i e fr' σ' hne hx
         rw [run_mono exec_Z hx]
         cases e with
         | normal => exact absurd rfl hne
         | exit id => exact hn
         | ret => exact hn
         | pan v => exact hn
       · cases hn
     · cases hn
 · unfold loopStep at h
   split at h
   · rename_i fr0 σ0 hg
     split at h
     · rename_i fr' σ' hx
       exact Z_loop_next hg hx h
     · rename_i e fr' σ' hne hx
       simp only [Option.some.injEq] at h
       subst h
       exact Z_loop_out (fun he => hne he) hg hx
     · cases h
   · cases h
theorem Z_round_eq (args : List V) (σ : S) : Z prog (.round args σ) = runRound (Z prog) args σ := by
 refine opt_ext (fun r h => ?_) (fun r h => Z_round h)
 obtain ⟨n, hn⟩ := Z_iff.1 h
 cases n with
 | zero => simp [exec] at hn
 | succ n =>
   simp only [exec] at hn
   exact runRound_mono exec_Z hn
theorem exec_sub {prog prog' : Nat -> Option PFun} (hs : ∀ f pf, prog f = some pf -> prog' f = some pf) : ∀ n, Le (exec prog n) (exec prog' n)
 | 0 => fun t r h => by simp [exec] at h
 | n + 1 => fun t r h => by
   have ih := exec_sub hs n
   cases t with
   | call f args σ =>
     simp only [exec] at h ⊢
     split at h
     · rename_i pf hpf
       simp only [hs f pf hpf]
       split at h
       · cases h
       · rename_i hc; rw [if_neg hc]; exact callBody_mono ih h
     · cases h
   | dcall f args σ =>
     simp only [exec] at h ⊢
     split at h
     · rename_i pf hpf
       simp only [hs f pf hpf]
       exact dcallBody_mono ih h
     · cases h
   | round args σ =>
     simp only [exec] at h ⊢
     exact runRound_mono ih h
   | loop k b fr σ =>
     simp only [exec] at h ⊢
     split at h
     · rename_i fr0 σ0 hg
       split at h
       · rename_i fr' σ' hx
         rw [run_mono ih hx]
         exact ih _ _ h
       · rename_i e fr' σ' hne hx
         rw [run_mono ih hx]
         cases e with
         | normal => exact absurd rfl hne
         | exit id => exact h
         | ret => exact h
         | pan v => exact h
       · cases h
     · cases h
theorem Z_sub {prog prog' : Nat -> Option PFun} (hs : ∀ f pf, prog f = some pf -> prog' f = some pf) {t : Task} {r : Res} (h : Z prog t = some r) : Z prog' t = some r := by
 obtain ⟨n, hn⟩ := Z_iff.1 h
 exact Z_of (exec_sub hs n _ _ hn)
end Go.Pm
end SY
section SS
namespace Go.Pm
attribute [simp] nilV argO argS frzV frzL frzT frzTL outV outL outT outTL finishV Ob.rows cutV srcO appendO appendT bstrV sliceAV V.isStr eqLit eqLits leave leaveP runDefers Fr.defs runOP runOsP mkAgg undef callBody enterFr run runOs runLog runO wantedI X.ev evs evParts optEv Fr.get Fr.put Fr.keep binV unV convV finish resV sealL sealTL V.sealT V.sealv restrict getObs reach locsL V.locs nodupB inL closed renL V.ren one
 gcL gcF locsF renF Ob.locs Ob.ren locsE renE idx back writeBack doCall reserveS reserveF calm alone evOf evRead locOf locsO loadV storeV ofCells ofDs Value.oneCell' allDat V.aggCells addrAdd fillV
@[simp] theorem one_lit (v : Value) : V.one (.dat (.lit v)) = v.oneCell' := rfl
@[simp] theorem cells_lit (v : Value) : V.cells (.dat (.lit v)) = [(.dat (.lit v))] := rfl
@[simp] theorem one_sl (cs : List D) (n : Nat) (f : Bool) : V.one (.dat (.sl cs n f)) = true := rfl
@[simp] theorem cells_sl (cs : List D) (n : Nat) (f : Bool) : V.cells (.dat (.sl cs n f)) = [(.dat (.sl cs n f))] := rfl
@[simp] theorem one_imm (cs : List D) (o : Nat) : V.one (.dat (.imm cs o)) = true := rfl
@[simp] theorem cells_imm (cs : List D) (o : Nat) : V.cells (.dat (.imm cs o)) = [(.dat (.imm cs o))] := rfl
@[simp] theorem one_dagg (cs : List D) : V.one (.dat (.agg cs)) = false := rfl
@[simp] theorem cells_dagg (cs : List D) : V.cells (.dat (.agg cs)) = cs.map .dat := rfl
@[simp] theorem one_diface (t : Nat) (d : D) : V.one (.dat (.iface t d)) = true := rfl
@[simp] theorem cells_diface (t : Nat) (d : D) : V.cells (.dat (.iface t d)) = [(.dat (.iface t d))] := rfl
@[simp] theorem one_ptr (l o : Nat) : V.one (.ptr l o) = true := rfl
@[simp] theorem cells_ptr (l o : Nat) : V.cells (.ptr l o) = [(.ptr l o)] := rfl
@[simp] theorem one_gsl (cs : List D) (n sz l : Nat) : V.one (.gsl cs n sz l) = true := rfl
@[simp] theorem cells_gsl (cs : List D) (n sz l : Nat) : V.cells (.gsl cs n sz l) = [(.gsl cs n sz l)] := rfl
@[simp] theorem one_msl (l o n cap sz : Nat) : V.one (.msl l o n cap sz) = true := rfl
@[simp] theorem cells_msl (l o n cap sz : Nat) : V.cells (.msl l o n cap sz) = [(.msl l o n cap sz)] := rfl
@[simp] theorem one_own (l n sz : Nat) : V.one (.own l n sz) = true := rfl
@[simp] theorem cells_own (l n sz : Nat) : V.cells (.own l n sz) = [(.own l n sz)] := rfl
@[simp] theorem one_eptr (l n o : Nat) : V.one (.eptr l n o) = true := rfl
@[simp] theorem cells_eptr (l n o : Nat) : V.cells (.eptr l n o) = [(.eptr l n o)] := rfl
@[simp] theorem one_bm (g : Nat) (v : V) : V.one (.bm g v) = true := rfl
@[simp] theorem cells_bm (g : Nat) (v : V) : V.cells (.bm g v) = [(.bm g v)] := rfl
@[simp] theorem one_agg (cs : List V) : V.one (.agg cs) = false := rfl
@[simp] theorem cells_agg (cs : List V) : V.cells (.agg cs) = cs := rfl
@[simp] theorem one_fn (f : Nat) (a b : List V) : V.one (.fn f a b) = true := rfl
@[simp] theorem cells_fn (f : Nat) (a b : List V) : V.cells (.fn f a b) = [(.fn f a b)] := rfl
@[simp] theorem one_mp (l : Nat) : V.one (.mp l) = true := rfl
@[simp] theorem cells_mp (l : Nat) : V.cells (.mp l) = [(.mp l)] := rfl
@[simp] theorem one_iface (t : Nat) (v : V) : V.one (.iface t v) = true := rfl
@[simp] theorem cells_iface (t : Nat) (v : V) : V.cells (.iface t v) = [(.iface t v)] := rfl
@[simp] theorem one_tup (vs : List V) : V.one (.tup vs) = false := rfl
@[simp] theorem cells_tup (vs : List V) : V.cells (.tup vs) = [(.tup vs)] := rfl
@[simp] theorem one_yld (l : Nat) : V.one (.yld l) = true := rfl
@[simp] theorem cells_yld (l : Nat) : V.cells (.yld l) = [(.yld l)] := rfl
@[simp] theorem cut_zero {α : Type} (cs : List α) : cutCells cs 0 0 = some [] := by simp [cutCells]
@[simp] theorem cut_take {α : Type} (c : α) (cs : List α) (n : Nat) : cutCells (c :: cs) 0 (n + 1) = (cutCells cs 0 n).map (c :: ·) := by
 simp only [cutCells, List.drop_zero, List.take_succ_cons, List.length_cons, Nat.add_right_cancel_iff]
 split <;> simp
@[simp] theorem cut_drop {α : Type} (c : α) (cs : List α) (o n : Nat) : cutCells (c :: cs) (o + 1) n = cutCells cs o n := by
 simp only [cutCells, List.drop_succ_cons]
@[simp] theorem eqI_iff (a b : Int) : eqI a b = decide (a = b) := rfl
abbrev I64 (n : Int) : Prop := -9223372036854775808 <= n /\ n <= 9223372036854775807
theorem wrap64 (n : Int) (h : -9223372036854775808 <= n /\ n <= 9223372036854775807) : IntKind.i64.wrap n = n := by rw [IntKind.wrap_i64]; omega
def intsC (xs : List Int) : List D := xs.map fun x => .lit (.int .i64 x)
def intsD : List Int -> D
 | [] => .lit (.slice none 0 0)
 | x :: xs => .sl (intsC (x :: xs)) (x :: xs).length false
@[simp] theorem len_intsD (σ : S) (xs : List Int) : V.len σ .sl (.dat (intsD xs)) = some xs.length := by
 cases xs <;> simp [intsD, V.len]
@[simp] theorem one_intsD (xs : List Int) : V.one (.dat (intsD xs)) = true := by cases xs <;> rfl
@[simp] theorem cells_intsD (xs : List Int) : V.cells (.dat (intsD xs)) = [.dat (intsD xs)] := by cases xs <;> rfl
theorem cut_intsC (xs : List Int) (i : Nat) (h : i < xs.length) : cutCells (intsC xs) i 1 = some [.lit (.int .i64 xs[i])] := by
 unfold cutCells intsC
 rw [List.drop_eq_getElem_cons (by simpa using h)]
 simp
end Go.Pm
end SS
