/- Chapter 14: renaming, as a change of trees. -/
import Derived.Test.YtebhnnjdljcicaaPmQ20
set_option linter.unusedSimpArgs false
set_option linter.unusedVariables false
namespace Go.Pm
open F
def Sm (xs : List ByteArray) : Prop := ∀ s ∈ xs, s.size ≤ 100
theorem Sm_nil : Sm [] := fun s h => by cases h
theorem Sm_app {a b : List ByteArray} (ha : Sm a) (hb : Sm b) : Sm (a ++ b) := fun s h => (List.mem_append.1 h).elim (ha s) (hb s)
theorem Sm_one {s : ByteArray} (h : s.size ≤ 100) : Sm [s] := fun t ht => by rw [List.mem_singleton] at ht; rw [ht]; exact h
theorem e_sm (e : E) : ∀ (r : Fo), e.ok → Sm r.vars → Sm (e.fo r).vars := by
  induction e with
  | int n => intro r _ hr; exact hr
  | bool n => intro r _ hr; exact hr
  | var s => intro r h hr; exact Sm_app (Sm_one h) hr
  | name s => intro r _ hr; exact hr
  | field f s e ih => intro r h hr; exact Sm_app Sm_nil (Sm_app (ih .nil h Sm_nil) hr)
  | un f neg e ih => intro r h hr; exact Sm_app Sm_nil (Sm_app (ih .nil h Sm_nil) hr)
  | bin f o a b iha ihb => intro r h hr; exact Sm_app Sm_nil (Sm_app (iha _ h.1 (ihb .nil h.2 Sm_nil)) hr)
theorem ss_sm (st : Ss) : st.ok → Sm st.fo.vars := by
  induction st with
  | nil => exact fun _ => Sm_nil
  | assign f s e r ih => exact fun h => Sm_app (Sm_one h.1) (Sm_app (e_sm e .nil h.2.1 Sm_nil) (ih h.2.2))
  | store f s a b r ih => exact fun h => Sm_app Sm_nil (Sm_app (e_sm a _ h.1 (e_sm b .nil h.2.1 Sm_nil)) (ih h.2.2))
  | effect f a b r ih => exact fun h => Sm_app Sm_nil (Sm_app (e_sm a _ h.1 (e_sm b .nil h.2.1 Sm_nil)) (ih h.2.2))
  | stop r ih => exact fun h => Sm_app Sm_nil (Sm_app Sm_nil (ih h))
  | cond w f c b r ihb ih =>
    intro h
    cases w <;> exact Sm_app Sm_nil (Sm_app (e_sm c _ h.1 (ihb h.2.1)) (ih h.2.2))
  | block f b r ihb ih => exact fun h => Sm_app Sm_nil (Sm_app (ihb h.1) (ih h.2))
def Fo.ren (d : ByteArray) : Fo → Fo
  | .nil => .nil
  | .cons k n s _ ks r => .cons k n (if k = 1 ∨ k = 10 then s ++ d else s) false (ks.ren d) (r.ren d)
theorem ren_len (d : ByteArray) (a : Fo) : (a.ren d).len = a.len := by
  induction a with
  | nil => rfl
  | cons k n s f ks r _ ih => simp [Fo.ren, ih]
theorem ren_size (d : ByteArray) (a : Fo) : (a.ren d).size = a.size := by
  induction a with
  | nil => rfl
  | cons k n s f ks r ih1 ih2 => simp [Fo.ren, ih1, ih2]
theorem ren_vars (d : ByteArray) (a : Fo) : (a.ren d).vars = a.vars.map (· ++ d) := by
  induction a with
  | nil => rfl
  | cons k n s f ks r ih1 ih2 =>
    simp only [Fo.ren, Fo.vars, List.map_append, ih1, ih2]
    split <;> simp
def E.ren (d : ByteArray) : E → E
  | .var s => .var (s ++ d)
  | .field _ s e => .field false s (e.ren d)
  | .un _ neg e => .un false neg (e.ren d)
  | .bin _ o a b => .bin false o (a.ren d) (b.ren d)
  | e => e
theorem e_ren_ty (d : ByteArray) (e : E) : (e.ren d).ty = e.ty := by
  induction e with
  | field f s e ih => simp [E.ren, ih]
  | un f neg e ih => simp [E.ren, ih]
  | bin f o a b iha ihb => simp [E.ren, iha, ihb]
  | _ => rfl
theorem e_ren_fo (d : ByteArray) (e : E) : ∀ r : Fo, (e.fo r).ren d = (e.ren d).fo (r.ren d) := by
  induction e with
  | field f s e ih => intro r; simp [E.ren, E.fo, Fo.ren, ih]
  | un f neg e ih => intro r; simp [E.ren, E.fo, Fo.ren, ih]
  | bin f o a b iha ihb => intro r; simp [E.ren, E.fo, Fo.ren, iha, ihb]
  | _ => intro r; simp [E.ren, E.fo, Fo.ren]
def Ss.ren (d : ByteArray) : Ss → Ss
  | .nil => .nil
  | .assign _ s e r => .assign false (s ++ d) (e.ren d) (r.ren d)
  | .store _ s a b r => .store false s (a.ren d) (b.ren d) (r.ren d)
  | .effect _ a b r => .effect false (a.ren d) (b.ren d) (r.ren d)
  | .stop r => .stop (r.ren d)
  | .cond w _ c b r => .cond w false (c.ren d) (b.ren d) (r.ren d)
  | .block _ b r => .block false (b.ren d) (r.ren d)
theorem ss_ren_well (d : ByteArray) (st : Ss) : (st.ren d).well = st.well := by
  induction st <;> simp_all [Ss.ren, Ss.well, e_ren_ty]
theorem ss_ren_fo (d : ByteArray) (st : Ss) : (st.ren d).fo = st.fo.ren d := by
  induction st with
  | cond w f c b r ihb ih => cases w <;> simp [Ss.ren, Ss.fo, Fo.ren, e_ren_fo, ihb, ih]
  | nil => rfl
  | assign f s e r ih => simp [Ss.ren, Ss.fo, Fo.ren, e_ren_fo, ih]
  | store f s a b r ih => simp [Ss.ren, Ss.fo, Fo.ren, e_ren_fo, ih]
  | effect f a b r ih => simp [Ss.ren, Ss.fo, Fo.ren, e_ren_fo, ih]
  | stop r ih => simp [Ss.ren, Ss.fo, Fo.ren, ih]
  | block f b r ihb ih => simp [Ss.ren, Ss.fo, Fo.ren, ihb, ih]
theorem app_inj (d : ByteArray) {a b : ByteArray} (h : a ++ d = b ++ d) : a = b := by
  have h2 := congrArg (fun x : ByteArray => x.data.toList) h
  simp only [ByteArray.data_append, Array.toList_append] at h2
  have h3 := List.append_cancel_right h2
  cases a; cases b
  simp only [Array.toList_inj] at h3
  rw [h3]
theorem addAll_map (d : ByteArray) : ∀ (xs l : List ByteArray), addAll (l.map (· ++ d)) (xs.map (· ++ d)) = (addAll l xs).map (· ++ d)
  | [], l => rfl
  | x :: xs, l => by
    show addAll (addN (l.map (· ++ d)) (x ++ d)) (xs.map (· ++ d)) = (addAll (addN l x) xs).map (· ++ d)
    have : addN (l.map (· ++ d)) (x ++ d) = (addN l x).map (· ++ d) := by
      unfold addN
      have hm : x ++ d ∈ l.map (· ++ d) ↔ x ∈ l := by
        rw [List.mem_map]
        exact ⟨fun ⟨y, h1, h2⟩ => app_inj d h2 ▸ h1, fun h => ⟨x, h, rfl⟩⟩
      by_cases h : x ∈ l
      · rw [if_pos h, if_pos (hm.2 h)]
      · rw [if_neg h, if_neg (fun k => h (hm.1 k))]; simp
    rw [this, addAll_map d xs]
theorem addAll_sm : ∀ (xs l : List ByteArray), Sm l → Sm xs → Sm (addAll l xs)
  | [], l, hl, _ => hl
  | x :: xs, l, hl, hx => by
    refine addAll_sm xs (addN l x) ?_ (fun s h => hx s (List.mem_cons_of_mem _ h))
    unfold addN
    split
    · exact hl
    · exact Sm_app hl (Sm_one (hx x (List.mem_cons_self ..)))
def Hd.ren (d : ByteArray) : Hd → Hd
  | .none => .none
  | .some _ b => .some false (b.ren d)
theorem hd_ren_well (d : ByteArray) (h : Hd) : (h.ren d).well = h.well := by
  cases h with
  | none => rfl
  | some f b => exact ss_ren_well d b
theorem hd_ren_ks (d : ByteArray) (h : Hd) : (h.ren d).ks = h.ks.ren d := by
  cases h with
  | none => rfl
  | some f b => exact ss_ren_fo d b
theorem hd_ren_k (d : ByteArray) (h : Hd) : (h.ren d).k = h.k := by cases h <;> rfl
theorem hd_ren_f (d : ByteArray) (h : Hd) : (h.ren d).f = false := by cases h <;> rfl
theorem hd_ren_vars (d : ByteArray) (h : Hd) : (h.ren d).nd.vars = h.nd.vars.map (· ++ d) := by
  have e : ∀ g : Hd, g.nd.vars = g.ks.vars := fun g => by cases g <;> simp [Nd.vars, Hd.k, Hd.ks, Fo.vars]
  rw [e, e, hd_ren_ks, ren_vars]
theorem hd_sm (h : Hd) (ho : h.ok) : Sm h.ks.vars := by
  cases h with
  | none => exact Sm_nil
  | some f b => exact ss_sm b ho
theorem rvars_ren (d : ByteArray) (a b c : Hd) : rvars (a.ren d).nd (b.ren d).nd (c.ren d).nd = (rvars a.nd b.nd c.nd).map (· ++ d) := by
  unfold rvars
  rw [hd_ren_vars, hd_ren_vars, hd_ren_vars, ← List.map_append, ← List.map_append]
  exact addAll_map d _ []
theorem rvars_sm (a b c : Hd) (ha : a.ok) (hb : b.ok) (hc : c.ok) : Sm (rvars a.nd b.nd c.nd) := by
  have e : ∀ g : Hd, g.nd.vars = g.ks.vars := fun g => by cases g <;> simp [Nd.vars, Hd.k, Hd.ks, Fo.vars]
  unfold rvars
  rw [e, e, e]
  exact addAll_sm _ _ Sm_nil (Sm_app (hd_sm a ha) (Sm_app (hd_sm b hb) (hd_sm c hc)))
theorem chk_ren (d : ByteArray) (a b c : Hd) : chk (a.ren d) (b.ren d) (c.ren d) = chk a b c := by
  unfold chk
  rw [hd_ren_well, hd_ren_well, hd_ren_well, rvars_ren, List.length_map]
end Go.Pm
