/- Regions. -/
import Derived.Test.YtebhnnjdljcicaaPmL
namespace Go.Pm
variable {P : Program} {ids : FuncId → Option Nat} {fid : Fid} {N : Nat}
section
variable {C : Task → Option Res} {ro : Option Nat} {Q : Exit → Act → World → Prop} {ops : Array Oper} {un : Nat → List Nat}

/-- A guard says what it says. -/
theorem wanted_sound {Γ : Ctx} {fr : Fr} {a : Act} (hf : FrRep fid Γ N fr a.tmps) {o : Oper} {g : Option (Nat × Bool)} {b : Bool}
    (hg : (o.guard = none ∧ g = none) ∨ ∃ i want d, o.guard = some (i, want) ∧ (ops[i]?).bind (·.dst) = some d ∧ d < N ∧ g = some (d, want)) (h : wantedI fr g = some b) :
    Region.wanted o (yielded ops a.tmps) = b := by
  rcases hg with ⟨h1, rfl⟩ | ⟨i, want, d, h1, h2, h3, rfl⟩
  · simp only [wantedI, Option.some.injEq] at h
    subst h
    simp [Region.wanted, h1]
  · simp only [wantedI] at h
    have hget : ∀ v, fr.get d = some v → ∃ x, a.tmps[d]? = some x ∧ Rep fid Γ v x := fun v hv => by
      have := hf.2 d v h3 hv
      have hs : d < a.tmps.size := by rw [hf.1]; exact h3
      refine ⟨a.tmps[d], by simp [hs], ?_⟩
      simpa [Array.getD, hs] using this
    simp only [Region.wanted, h1, yielded, h2, Option.bind_some]
    split at h
    · rename_i c hc
      cases h
      obtain ⟨x, hx, hr⟩ := hget _ hc
      rw [hx, (Rep_lit hr).1]
      cases c <;> cases want <;> rfl
    · rename_i v hnb hc
      cases h
      obtain ⟨x, hx, hr⟩ := hget _ hc
      rw [hx, (Rep_lit hr).1]
      cases v <;> first | rfl | exact absurd rfl (hnb _)
    · cases h
/-- What cI says. -/
theorem cI_spec {draw : Bool} {j : Nat} {o : Oper} {i : I} (h : cI P ids N draw ops un j o = some i) :
    cOpD P ids N draw o = some i.op ∧ i.dst = o.dst ∧ (∀ d, o.dst = some d → d < N) ∧
    ((o.guard = none ∧ i.guard = none) ∨ ∃ k want d, o.guard = some (k, want) ∧ (ops[k]?).bind (·.dst) = some d ∧ d < N ∧ i.guard = some (d, want)) := by
  unfold cI at h
  split at h
  · rename_i op hop
    split at h
    · rename_i hd
      have hd' : ∀ d, o.dst = some d → d < N := fun d e => by rw [e] at hd; simpa [dstOk] using hd
      split at h
      · rename_i hg
        cases h
        exact ⟨hop, rfl, hd', .inl ⟨hg, rfl⟩⟩
      · rename_i k want hg
        split at h
        · rename_i d hk
          split at h
          · rename_i hdN
            cases h
            exact ⟨hop, rfl, hd', .inr ⟨k, want, d, hg, hk, hdN, rfl⟩⟩
          · cases h
        · cases h
    · cases h
  · cases h
theorem undef_rep {Γ : Ctx} : Rep fid Γ (.dat (.lit undef)) undef := mkLit rfl
/-- A region in the text's order. -/
theorem ordered (hid : Ties ids fid) (hC : CSound P fid C) {σ' : S} {fr' : Fr} : ∀ {l : List Oper} {j : Nat} {is : List I} {fr : Fr} {Γ : Ctx} {a : Act},
    (∀ k, l[k]? = ops[j + k]?) → cIs P ids N false ops un j l = some is → Real fid Γ → FrRep fid Γ N fr a.tmps → runOs C is fr Γ.σ = some (fr', σ') →
    (∀ Γ' a', Γ'.σ = σ' → Real fid Γ' → Step Γ Γ' → FrRep fid Γ' N fr' a'.tmps → a'.defers = a.defers → Q .normal a' Γ'.w) →
    wpOpsIn (FR ro) 0 P ops Q (List.range' j l.length) a Γ.w
  | [], j, is, fr, Γ, a, hl, hc, hr, hf, h, hk => by
    simp only [cIs, Option.some.injEq] at hc; subst hc
    simp only [runOs, Option.some.injEq, Prod.mk.injEq] at h
    obtain ⟨rfl, rfl⟩ := h
    simp only [List.length_nil, List.range'_zero, wpOpsIn]
    exact hk Γ a rfl hr (.refl _) hf rfl
  | o :: l, j, is, fr, Γ, a, hl, hc, hr, hf, h, hk => by
    simp only [cIs] at hc
    split at hc
    · rename_i i is' h1 h2
      cases hc
      obtain ⟨k1, k2, k3, k4⟩ := cI_spec h1
      have k1' : cOp P ids N o.op = some i.op := k1
      have ho : ops[j]? = some o := by have := hl 0; simpa using this.symm
      have hl' : ∀ k, l[k]? = ops[j + 1 + k]? := fun k => by have := hl (k + 1); simpa [Nat.add_assoc, Nat.add_comm 1 k] using this
      simp only [List.length_cons, List.range'_succ, wpOpsIn, ho]
      simp only [runOs] at h
      split at h
      · rename_i hw
        rw [wanted_sound (ops := ops) hf k4 hw]
        simp only [if_true]
        split at h
        · rename_i v σ1 hv
          refine op_sound hid hC k1' hr hf hv fun Γ1 x e1 e2 e3 e4 => ?_
          subst e1
          refine ordered hid hC hl' h2 e2 (k2 ▸ FrRep.put (a := a) (dst := i.dst) (hf.ext e3.ext) (by rw [k2]; exact k3) e4) (by rw [k2] at h; exact h) fun Γ' a' f1 f2 f3 f4 f5 => ?_
          refine hk Γ' a' f1 f2 (e3.trans f3) f4 (f5.trans ?_)
          cases o.dst <;> rfl
        · cases h
      · rename_i hw
        rw [wanted_sound (ops := ops) hf k4 hw]
        simp only [Bool.false_eq_true, if_false]
        refine ⟨fun f _ => trivial, ordered hid hC hl' h2 hr (k2 ▸ FrRep.put (a := a) (dst := i.dst) hf (by rw [k2]; exact k3) undef_rep) (by rw [k2] at h; exact h) fun Γ' a' f1 f2 f3 f4 f5 => ?_⟩
        refine hk Γ' a' f1 f2 f3 f4 (f5.trans ?_)
        cases o.dst <;> rfl
      · cases h
    · cases hc
theorem region_ordered (hid : Ties ids fid) (hC : CSound P fid C) {id : Nat} {is : List I} {fr fr' : Fr} {σ' : S} {Γ : Ctx} {a : Act} (hc : cIs P ids N false ops un 0 ops.toList = some is) (hr : Real fid Γ) (hf : FrRep fid Γ N fr a.tmps)
    (h : runOs C is fr Γ.σ = some (fr', σ')) (hk : ∀ Γ' a', Γ'.σ = σ' → Real fid Γ' → Step Γ Γ' → FrRep fid Γ' N fr' a'.tmps → a'.defers = a.defers → Q .normal a' Γ'.w) :
    (Code.region id ops false).wpIn (FR ro) 0 P Q a Γ.w := by
  refine wpIn_region ?_
  rw [List.range_eq_range', ← Array.length_toList]
  exact ordered hid hC (l := ops.toList) (j := 0) (fun k => by simp) hc hr hf h hk

/-! ## congruence: an operation looks at its operands alone -/
theorem ev_congr {fr fr' : Fr} : ∀ {x : X}, (∀ t ∈ x.tmps, fr.get t = fr'.get t) → x.ev fr = x.ev fr'
  | .t n, h => h n (by simp [X.tmps])
  | .c _, _ => rfl
  | .f _, _ => rfl
theorem evs_congr {fr fr' : Fr} : ∀ {xs : List X}, (∀ t ∈ tmpsX xs, fr.get t = fr'.get t) → evs fr xs = evs fr' xs
  | [], _ => rfl
  | x :: r, h => by
    simp only [evs]
    rw [ev_congr (x := x) (fun t ht => h t (by simp [tmpsX, ht])), evs_congr (xs := r) (fun t ht => h t (by simp [tmpsX, ht]))]
theorem evParts_congr {fr fr' : Fr} : ∀ {xs : List (Nat × Nat × X)}, (∀ t ∈ tmpsP xs, fr.get t = fr'.get t) → evParts fr xs = evParts fr' xs
  | [], _ => rfl
  | (o, n, x) :: r, h => by
    simp only [evParts]
    rw [ev_congr (x := x) (fun t ht => h t (by simp [tmpsP, ht])), evParts_congr (xs := r) (fun t ht => h t (by simp [tmpsP, ht]))]
theorem optEv_congr {fr fr' : Fr} : ∀ {x : Option X}, (∀ t ∈ tmpsOX x, fr.get t = fr'.get t) → optEv fr x = optEv fr' x
  | none, _ => rfl
  | some x, h => by simp only [optEv]; rw [ev_congr (x := x) h]
theorem runO_congr {fr fr' : Fr} {op : O} (h : ∀ t ∈ op.tmps, fr.get t = fr'.get t) (σ : S) : runO C fr σ op = runO C fr' σ op ∧ evOf fr σ op = evOf fr' σ op := by
  cases op with
  | mov x | box x | load _ _ x | nilchk x | un _ x | conv _ x | fieldAddr _ x | field _ _ _ x | len _ x | extract x _ =>
    have := ev_congr (x := x) h
    simp only [runO, evOf, this, and_self]
  | pick c a b =>
    have h1 := ev_congr (x := c) (fun t ht => h t (by simp [O.tmps, ht]))
    have h2 := ev_congr (x := a) (fun t ht => h t (by simp [O.tmps, ht]))
    have h3 := ev_congr (x := b) (fun t ht => h t (by simp [O.tmps, ht]))
    simp only [runO, evOf, h1, h2, h3, and_self]
  | alloc _ | mkmap => simp only [runO, evOf, and_self]
  | build _ ps | bslice _ _ ps =>
    have := evParts_congr (xs := ps) h
    simp only [runO, evOf, this, and_self]
  | store _ a x | bin _ a x | eqb _ a x | indexAddr _ a x | indexAddrA _ _ a x | indexA _ _ _ a x | indexS a x | append _ _ a x | lookup _ _ a x _ =>
    have h1 := ev_congr (x := a) (fun t ht => h t (by simp [O.tmps, ht]))
    have h2 := ev_congr (x := x) (fun t ht => h t (by simp [O.tmps, ht]))
    simp only [runO, evOf, h1, h2, and_self]
  | slice _ x l u | sliceS x l u =>
    have h1 := ev_congr (x := x) (fun t ht => h t (by simp [O.tmps, ht]))
    have h2 := optEv_congr (x := l) (fun t ht => h t (by simp [O.tmps, ht]))
    have h3 := optEv_congr (x := u) (fun t ht => h t (by simp [O.tmps, ht]))
    simp only [runO, evOf, h1, h2, h3, and_self]
  | min xs | max xs | call _ xs =>
    have := evs_congr (xs := xs) h
    simp only [runO, evOf, this, and_self]
  | mapset _ a b c =>
    have h1 := ev_congr (x := a) (fun t ht => h t (by simp [O.tmps, ht]))
    have h2 := ev_congr (x := b) (fun t ht => h t (by simp [O.tmps, ht]))
    have h3 := ev_congr (x := c) (fun t ht => h t (by simp [O.tmps, ht]))
    simp only [runO, evOf, h1, h2, h3, and_self]
  | mkfn _ a b =>
    have h1 := evs_congr (xs := a) (fun t ht => h t (by simp [O.tmps, ht]))
    have h2 := evs_congr (xs := b) (fun t ht => h t (by simp [O.tmps, ht]))
    simp only [runO, evOf, h1, h2, and_self]
  | callv f xs =>
    have h1 := ev_congr (x := f) (fun t ht => h t (by simp [O.tmps, ht]))
    have h2 := evs_congr (xs := xs) (fun t ht => h t (by simp [O.tmps, ht]))
    simp only [runO, evOf, h1, h2, and_self]
  | fill k =>
    have h1 := h k (by simp [O.tmps])
    simp only [runO, evOf, h1, and_self]

/-! ## what an operation does to the store -/
theorem loadV_frame {σ σ' : S} {agg : Bool} {n : Nat} {p : V} (h : ∀ l, evRead (some p) = .read l → σ'[l]? = σ[l]?) : loadV σ' agg n p = loadV σ agg n p := by
  unfold loadV
  split
  · rename_i l o; rw [h l rfl]
  · rfl
  · rfl
/-- An operation that is not of the chain leaves the store, and asks of it the object that it reads alone. -/
theorem runO_calm {fr : Fr} {σ σ1 : S} {op : O} {v : V} (hc : op.chain = false) (h : runO C fr σ op = some (v, σ1)) :
    σ1 = σ ∧ ∀ σ', (∀ l, evOf fr σ op = .read l → σ'[l]? = σ[l]?) → runO C fr σ' op = some (v, σ') := by
  cases op with
  | alloc _ | mkmap | box _ | store _ _ _ | append _ _ _ _ | mapset _ _ _ _ | call _ _ | callv _ _ => cases hc
  | load agg n x =>
    simp only [runO] at h ⊢
    split at h
    · rename_i p hp
      split at h
      · rename_i u hu
        cases h
        refine ⟨rfl, fun σ' hs => ?_⟩
        have : loadV σ' agg n p = loadV σ agg n p := loadV_frame fun l hl => hs l (by simp only [evOf, hp]; exact hl)
        simp only [this, hu]
      · cases h
    · cases h
  | lookup kd z m k ok =>
    simp only [runO] at h
    split at h
    · rename_i l key hm hk
      refine ⟨?_, fun σ' hs => ?_⟩
      · split at h
        · split at h
          · split at h <;> cases h <;> rfl
          · cases h
        · cases h
      · have := hs l (by simp only [evOf, hm, evRead])
        simp only [runO, hm, hk, this]
        split at h
        · rename_i es hes
          split at h
          · rename_i hko
            split at h
            · rename_i u hu; cases h; simp [hko]
            · rename_i hu; cases h; simp [hko]
            · cases h
          · cases h
        · cases h
    · cases h
  | len k x =>
    simp only [runO] at h
    split at h
    · rename_i p hp
      split at h
      · rename_i n hn
        cases h
        refine ⟨rfl, fun σ' hs => ?_⟩
        have : V.len σ' k p = V.len σ k p := by
          unfold V.len
          split <;> first | rfl | skip
          rename_i l
          rw [hs l (by simp only [evOf, hp, evRead])]
        simp only [runO, hp, this, hn]
      · cases h
    · cases h
  | fill k =>
    simp only [runO] at h
    split at h
    · rename_i l hl
      refine ⟨?_, fun σ' hs => ?_⟩
      · split at h <;> cases h; rfl
      · have := hs l (by simp only [evOf, hl, evRead])
        simp only [runO, hl, this]
        split at h
        · rename_i cs hcs; cases h; rfl
        · cases h
    · cases h
  | _ =>
    simp only [runO] at h ⊢
    refine ⟨?_, fun σ' _ => ?_⟩
    · repeat' (first | (cases h; done) | (cases h; rfl) | split at h)
    · repeat' (first | (cases h; done) | (split at h) | (cases h; simp_all; done))
theorem writeBack_other {L : List Nat} {σ : S} {obs : List Ob} {l : Nat} (hl : l < σ.length) (hm : l ∉ L) : (writeBack σ L obs)[l]? = σ[l]? ∧ σ.length ≤ (writeBack σ L obs).length := by
  induction L generalizing σ obs with
  | nil =>
    cases obs <;> simp only [writeBack] <;> exact ⟨by rw [List.getElem?_append_left hl], by simp⟩
  | cons k ks ih =>
    cases obs with
    | nil => simp only [writeBack]; exact ⟨by rw [List.getElem?_append_left hl], by simp⟩
    | cons ob obs =>
      simp only [writeBack]
      obtain ⟨h1, h2⟩ := ih (σ := σ.set k ob) (obs := obs) (by simpa using hl) (fun h => hm (by simp [h]))
      exact ⟨by rw [h1, List.getElem?_set_ne (fun e => hm (by simp [e]))], by simpa using h2⟩
theorem writeBack_length {L : List Nat} {σ : S} {obs : List Ob} : σ.length ≤ (writeBack σ L obs).length := by
  induction L generalizing σ obs with
  | nil => cases obs <;> simp [writeBack]
  | cons k ks ih =>
    cases obs with
    | nil => simp [writeBack]
    | cons ob obs =>
      simp only [writeBack]
      have := ih (σ := σ.set k ob) (obs := obs)
      simpa using this
theorem doCall_frame {σ σ' : S} {mk : List V → S → Task} {args : List V} {v : V} (h : doCall C mk args σ = some (v, σ')) :
    σ.length ≤ σ'.length ∧ ∀ l, l < σ.length → l ∉ reach σ 100000 (locsL args) [] → σ'[l]? = σ[l]? := by
  unfold doCall at h
  simp only at h
  split at h
  · split at h
    · cases h
      exact ⟨writeBack_length, fun l hl hm => (writeBack_other hl hm).1⟩
    · cases h
  · cases h
/-- What an operation of the chain may change. -/
theorem runO_chain {fr : Fr} {σ σ1 : S} {op : O} {v : V} (hc : op.chain = true) (h : runO C fr σ op = some (v, σ1)) :
    ∃ T, evOf fr σ op = .chain σ.length T ∧ σ.length ≤ σ1.length ∧ ∀ l, l < σ.length → l ∉ T → σ1[l]? = σ[l]? := by
  have app : ∀ {σ : S} {ob : Ob} (l : Nat), l < σ.length → (σ ++ [ob])[l]? = σ[l]? := fun l hl => List.getElem?_append_left hl
  cases op with
  | alloc z => simp only [runO, Option.some.injEq, Prod.mk.injEq] at h; obtain ⟨rfl, rfl⟩ := h; exact ⟨[], rfl, by simp, fun l hl _ => app l hl⟩
  | mkmap => simp only [runO, Option.some.injEq, Prod.mk.injEq] at h; obtain ⟨rfl, rfl⟩ := h; exact ⟨[], rfl, by simp, fun l hl _ => app l hl⟩
  | box x =>
    simp only [runO] at h
    split at h
    · split at h
      · cases h; exact ⟨[], rfl, by simp, fun l hl _ => app l hl⟩
      · cases h
    · cases h
  | store n a x =>
    simp only [runO] at h
    split at h
    · rename_i p u hp hu
      split at h
      · rename_i s hs
        cases h
        unfold storeV at hs
        split at hs
        · rename_i l o
          refine ⟨[l], by simp [evOf, hp, locOf, V.locs], ?_⟩
          split at hs
          · simp only at hs
            split at hs
            · cases hs
              exact ⟨by simp, fun l' _ hm => List.getElem?_set_ne (fun e => hm (by simp [e]))⟩
            · cases hs
          · cases hs
        · cases hs
      · cases h
    · cases h
  | append sz b s x =>
    simp only [runO] at h
    split at h
    · rename_i p q hp hq
      refine ⟨locOf (s.ev fr), rfl, ?_⟩
      rw [hp]
      unfold appendV at h
      split at h
      · cases h
      · split at h
        · split at h
          · split at h <;> cases h <;> exact ⟨Nat.le_refl _, fun _ _ _ => rfl⟩
          · split at h
            · (split at h <;> cases h); exact ⟨by simp, fun l hl _ => app l hl⟩
            · (split at h <;> cases h); exact ⟨by simp, fun l hl _ => app l hl⟩
            · split at h
              · split at h <;> cases h
                exact ⟨by simp, fun l' _ hm => List.getElem?_set_ne (fun e => hm (by simp [locOf, V.locs, e]))⟩
              · cases h
            · cases h
        · cases h
    · cases h
  | mapset kd m k x =>
    simp only [runO] at h
    split at h
    · rename_i l key u hm hk hu
      refine ⟨[l], by simp [evOf, hm, locOf, V.locs], ?_⟩
      split at h
      · split at h
        · split at h
          · cases h
            exact ⟨by simp, fun l' _ hm => List.getElem?_set_ne (fun e => hm (by simp [e]))⟩
          · cases h
        · cases h
      · cases h
    · cases h
  | call f xs =>
    simp only [runO] at h
    split at h
    · rename_i vs hvs
      obtain ⟨h1, h2⟩ := doCall_frame h
      exact ⟨_, by simp only [evOf, hvs, Option.map_some, locsO], h1, h2⟩
    · cases h
  | callv f xs =>
    simp only [runO] at h
    split at h
    · rename_i id as bs vs hf hvs
      obtain ⟨h1, h2⟩ := doCall_frame h
      refine ⟨reach σ 100000 (locsL as ++ (locsL (argS id vs) ++ locsL bs)) [], by simp only [evOf, hf, hvs, Option.map_some, locsO], h1, fun l hl hm => h2 l hl ?_⟩
      have happ : ∀ a b : List V, locsL (a ++ b) = locsL a ++ locsL b := fun a b => by
        induction a with
        | nil => simp [locsL]
        | cons x a ih => simp [locsL, ih]
      rw [happ, happ, List.append_assoc]
      exact hm
    · rename_i l vs hf hvs
      obtain ⟨h1, h2⟩ := doCall_frame h
      refine ⟨reach σ 100000 (l :: locsL vs) [], by simp only [evOf, hf, hvs, locsO], h1, fun l hl hm => h2 l hl ?_⟩
      simpa [locsL, V.locs] using hm
    · cases h
  | _ => cases hc
end
end Go.Pm
