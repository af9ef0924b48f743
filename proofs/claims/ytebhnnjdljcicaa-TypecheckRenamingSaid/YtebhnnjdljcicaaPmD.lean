/- How the meaning goes on when a store, an allocation, a growth happens. -/
import Derived.Test.YtebhnnjdljcicaaPmC
namespace Go.Pm

/-- Only block b may have changed. -/
structure WOnly (b : Nat) (w w' : World) : Prop where
  os : w'.os = w.os
  tape : w'.tape = w.tape
  output : w'.output = w.output
  size : w'.heap.size = w.heap.size
  other : ∀ k, k ≠ b → w'.heap[k]? = w.heap[k]?
theorem WOnly.refl (b : Nat) (w : World) : WOnly b w w := ⟨rfl, rfl, rfl, rfl, fun _ _ => rfl⟩
theorem WOnly.trans {b : Nat} {w w' w'' : World} (h : WOnly b w w') (k : WOnly b w' w'') : WOnly b w w'' :=
  ⟨k.os.trans h.os, k.tape.trans h.tape, k.output.trans h.output, k.size.trans h.size, fun j hj => (k.other j hj).trans (h.other j hj)⟩

theorem cell?_of_block {w w' : World} {b : Nat} (h : w'.heap[b]? = w.heap[b]?) (i : Nat) : w'.cell? ⟨b, i, none⟩ = w.cell? ⟨b, i, none⟩ := by
  simp only [World.cell?, h]
theorem Real.F_lt {fid : Fid} {Γ : Ctx} (h : Real fid Γ) {b : Nat} (hb : 0 < Γ.F b) : b < Γ.w.heap.size := by
  obtain ⟨arr, e, fz, h1, _⟩ := h.imm b hb
  exact (Array.getElem?_eq_some_iff.1 h1).1
theorem Real.F_size {fid : Fid} {Γ : Ctx} (h : Real fid Γ) : Γ.F Γ.w.heap.size = 0 := by
  rcases Nat.eq_zero_or_pos (Γ.F Γ.w.heap.size) with h0 | h0
  · exact h0
  · exact absurd (h.F_lt h0) (Nat.lt_irrefl _)
theorem Real.F_obj {fid : Fid} {Γ : Ctx} (h : Real fid Γ) {l b : Nat} {ob : Ob} (ho : Γ.σ[l]? = some ob) (ht : ob.isTip = false) (hm : Γ.μ l = some b) : Γ.F b = 0 := by
  have := h.obs l ob b ho hm
  cases ob with
  | cells cs => exact this.1
  | map es => exact this.1
  | loop lp => exact this.1
  | tip m => simp [Ob.isTip] at ht

/-- An object is changed. -/
theorem upd {fid : Fid} {Γ : Ctx} (hr : Real fid Γ) {l b : Nat} {ob ob' : Ob} {w' : World} (ho : Γ.σ[l]? = some ob) (ht : ob.isTip = false) (ht' : ob'.isTip = false)
    (hm : Γ.μ l = some b) (hw : WOnly b Γ.w w')
    (hn : Ext Γ ⟨Γ.σ.set l ob', Γ.μ, Γ.F, w'⟩ → RepOb fid ⟨Γ.σ.set l ob', Γ.μ, Γ.F, w'⟩ b ob') :
    Real fid ⟨Γ.σ.set l ob', Γ.μ, Γ.F, w'⟩ ∧ Step Γ ⟨Γ.σ.set l ob', Γ.μ, Γ.F, w'⟩ := by
  have hF := hr.F_obj ho ht hm
  have hlt : l < Γ.σ.length := (List.getElem?_eq_some_iff.1 ho).1
  have hext : Ext Γ ⟨Γ.σ.set l ob', Γ.μ, Γ.F, w'⟩ := by
    refine ⟨Nat.le_of_eq hw.size.symm, hw.os, hw.tape, hw.output, fun _ => Nat.le_refl _, fun k i v hi hv => ?_, fun k arr e hk ha => ⟨arr, ?_, rfl⟩, by simp, fun j o hj hjt => ⟨?_, fun _ h => h⟩, fun j m hj => ⟨m, ?_, Nat.le_refl _, fun h => h, fun _ _ h => h⟩⟩
    · have : k ≠ b := fun e => by subst e; omega
      rw [cell?_of_block (hw.other k this)]; exact hv
    · have : k ≠ b := fun e => by subst e; omega
      rw [hw.other k this]; exact ha
    · by_cases e : l = j
      · subst e; exact ⟨ob', by simp [hlt], ht'⟩
      · exact ⟨o, by rw [List.getElem?_set_ne e]; exact hj, hjt⟩
    · by_cases e : l = j
      · subst e; rw [ho] at hj; cases hj; simp [Ob.isTip] at ht
      · rw [List.getElem?_set_ne e]; exact hj
  refine ⟨⟨fun j o k hj hk => ?_, fun j k hk => ?_, hr.inj, fun k hk => ?_⟩, hext, ⟨fun k hk hno => ⟨hw.other k fun e => by subst e; exact hno l hm, rfl⟩, fun j k hj _ => ⟨j, hj⟩⟩, fun _ _ h => h⟩
  · by_cases e : l = j
    · subst e
      simp only [List.getElem?_set_self hlt, Option.some.injEq] at hj
      subst hj
      rw [hm] at hk; cases hk
      exact hn hext
    · rw [List.getElem?_set_ne e] at hj
      have hb : k ≠ b := fun e' => by subst e'; exact e (hr.inj _ _ _ hm hk)
      exact RepOb.ext hext (hw.other k hb) rfl o (hr.obs j o k hj hk)
  · have := hr.dom j k hk
    exact ⟨by simpa using this.1, by rw [hw.size]; exact this.2⟩
  · obtain ⟨arr, e, fz, h1, h2⟩ := hr.imm k hk
    have : k ≠ b := fun e => by subst e; simp only at hk; omega
    exact ⟨arr, e, fz, by rw [hw.other k this]; exact h1, h2⟩

theorem heap_alloc_lt (w : World) (o : Obj) {k : Nat} (h : k < w.heap.size) : (w.alloc o).heap[k]? = w.heap[k]? := by
  simp only [World.alloc, Array.getElem?_push]
  rw [if_neg (by omega)]
theorem heap_alloc_new (w : World) (o : Obj) : (w.alloc o).heap[w.heap.size]? = some o := by
  show (w.heap.push o)[w.heap.size]? = some o
  simp
theorem heap_lt {w : World} {k : Nat} {o : Obj} (h : w.heap[k]? = some o) : k < w.heap.size := (Array.getElem?_eq_some_iff.1 h).1

/-- A new block: an object for l (new, or one that had no block yet), or a row of data. The general step. -/
def bind (μ : Nat → Option Nat) (l b : Nat) : Nat → Option Nat := fun j => if j = l then some b else μ j
def grow (F : Nat → Nat) (b n : Nat) : Nat → Nat := fun j => if j = b then n else F j

theorem ext_alloc {Γ : Ctx} (hF : Γ.F Γ.w.heap.size = 0) (hlt : ∀ b, 0 < Γ.F b → b < Γ.w.heap.size) (o : Obj) (σ' : S) (μ' : Nat → Option Nat) (n : Nat)
    (hσ : Γ.σ.length ≤ σ'.length)
    (hfix : ∀ l ob, Γ.σ[l]? = some ob → ob.isTip = false → (∃ ob', σ'[l]? = some ob' ∧ ob'.isTip = false) ∧ ∀ b, Γ.μ l = some b → μ' l = some b)
    (htip : ∀ l m, Γ.σ[l]? = some (.tip m) → ∃ m', σ'[l]? = some (.tip m') ∧ m ≤ m' ∧ ((Γ.μ l).isSome = true → (μ' l).isSome = true) ∧ (m = m' → ∀ b, Γ.μ l = some b → μ' l = some b)) :
    Ext Γ ⟨σ', μ', grow Γ.F Γ.w.heap.size n, Γ.w.alloc o⟩ := by
  refine ⟨by simp, rfl, rfl, rfl, fun b => ?_, fun b i v hi hv => ?_, fun b arr e hb ha => ⟨arr, ?_, rfl⟩, hσ, hfix, htip⟩
  · simp only [grow]; split
    · rename_i e; subst e; omega
    · exact Nat.le_refl _
  · have hb : b < Γ.w.heap.size := hlt b (by omega)
    rw [cell?_of_block (heap_alloc_lt Γ.w o hb)]; exact hv
  · have hb : b < Γ.w.heap.size := hlt b hb
    rw [heap_alloc_lt Γ.w o hb]; exact ha

/-- A row of data in a new block. -/
theorem allocImm {fid : Fid} {Γ : Ctx} (hr : Real fid Γ) (arr : Array Value) (e : TypeId) (n : Nat) (hn : n ≤ arr.size) :
    Real fid ⟨Γ.σ, Γ.μ, grow Γ.F Γ.w.heap.size n, Γ.w.alloc (.cells arr e)⟩ ∧ Step Γ ⟨Γ.σ, Γ.μ, grow Γ.F Γ.w.heap.size n, Γ.w.alloc (.cells arr e)⟩ := by
  have hext := ext_alloc hr.F_size (fun b => hr.F_lt) (.cells arr e) Γ.σ Γ.μ n (Nat.le_refl _) (fun l ob h ht => ⟨⟨ob, h, ht⟩, fun _ h => h⟩)
    (fun l m h => ⟨m, h, Nat.le_refl _, fun h => h, fun _ _ h => h⟩)
  refine ⟨⟨fun l ob b h1 h2 => ?_, fun l b h => ?_, hr.inj, fun b hb => ?_⟩, hext, ⟨fun b hb hn => ⟨heap_alloc_lt _ _ hb, ?_⟩, fun l b h _ => ⟨l, h⟩⟩, fun _ _ h => h⟩
  · have hb := (hr.dom l b h2).2
    exact RepOb.ext hext (heap_alloc_lt _ _ hb) (by simp only [grow]; rw [if_neg (by omega)]) ob (hr.obs l ob b h1 h2)
  · have := hr.dom l b h
    exact ⟨this.1, by simp; omega⟩
  · simp only [grow] at hb ⊢
    split at hb
    · rename_i e'; subst e'
      exact ⟨arr, e, (0, 0), heap_alloc_new _ _, by simpa using hn⟩
    · rename_i e'
      obtain ⟨a, t, fz, h1, h2⟩ := hr.imm b hb
      exact ⟨a, t, fz, by rw [heap_alloc_lt _ _ (heap_lt h1)]; exact h1, by simpa [e'] using h2⟩
  · simp only [grow]; rw [if_neg (by omega)]

/-- A new object (at the end of the store). -/
theorem allocOb {fid : Fid} {Γ : Ctx} (hr : Real fid Γ) (ob : Ob) (o : Obj) (n : Nat)
    (hn : ∀ Γ' : Ctx, Γ' = ⟨Γ.σ ++ [ob], bind Γ.μ Γ.σ.length Γ.w.heap.size, grow Γ.F Γ.w.heap.size n, Γ.w.alloc o⟩ → Ext Γ Γ' → RepOb fid Γ' Γ.w.heap.size ob)
    (hi : 0 < n → ∃ arr e fz, o = .cells arr e fz ∧ n ≤ arr.size) :
    Real fid ⟨Γ.σ ++ [ob], bind Γ.μ Γ.σ.length Γ.w.heap.size, grow Γ.F Γ.w.heap.size n, Γ.w.alloc o⟩ ∧
    Step Γ ⟨Γ.σ ++ [ob], bind Γ.μ Γ.σ.length Γ.w.heap.size, grow Γ.F Γ.w.heap.size n, Γ.w.alloc o⟩ := by
  have hlast : ∀ l ob', Γ.σ[l]? = some ob' → l < Γ.σ.length ∧ (Γ.σ ++ [ob])[l]? = some ob' := fun l ob' h => by
    have hl := (List.getElem?_eq_some_iff.1 h).1
    exact ⟨hl, by rw [List.getElem?_append_left hl]; exact h⟩
  have hext := ext_alloc hr.F_size (fun b => hr.F_lt) o (Γ.σ ++ [ob]) (bind Γ.μ Γ.σ.length Γ.w.heap.size) n (by simp)
    (fun l ob' h ht => ⟨⟨ob', (hlast l ob' h).2, ht⟩, fun b hb => by simp only [bind]; rw [if_neg (by have := (hlast l ob' h).1; omega)]; exact hb⟩)
    (fun l m h => ⟨m, (hlast l _ h).2, Nat.le_refl _, fun hs => by simp only [bind]; split <;> simp_all, fun _ b hb => by simp only [bind]; rw [if_neg (by have := (hlast l _ h).1; omega)]; exact hb⟩)
  refine ⟨⟨fun l ob' b h1 h2 => ?_, fun l b h => ?_, fun l l' b h h' => ?_, fun b hb => ?_⟩, hext, ⟨fun b hb hn => ⟨heap_alloc_lt _ _ hb, ?_⟩, fun l b h hb => ?_⟩, fun l hl h => by simp only [bind]; rw [if_neg (by omega)]; exact h⟩
  · simp only [bind] at h2
    split at h2
    · rename_i e; subst e; cases h2
      simp at h1; subst h1
      exact hn _ rfl hext
    · rename_i e
      have hd := hr.dom l b h2
      have h1' : Γ.σ[l]? = some ob' := by
        simp only at h1
        rw [List.getElem?_append_left hd.1] at h1; exact h1
      exact RepOb.ext hext (heap_alloc_lt _ _ hd.2) (by simp only [grow]; rw [if_neg (by omega)]) ob' (hr.obs l ob' b h1' h2)
  · simp only [bind] at h
    split at h
    · rename_i e; subst e; cases h; simp
    · have := hr.dom l b h
      exact ⟨by simp; omega, by simp; omega⟩
  · simp only [bind] at h h'
    split at h <;> split at h'
    · rename_i e e'; exact e.trans e'.symm
    · cases h; have := (hr.dom l' _ h').2; omega
    · cases h'; have := (hr.dom l _ h).2; omega
    · exact hr.inj l l' b h h'
  · simp only [grow] at hb ⊢
    split at hb
    · rename_i e'; subst e'
      obtain ⟨arr, e, fz, ho, hle⟩ := hi hb
      exact ⟨arr, e, fz, by rw [heap_alloc_new, ho], by simpa using hle⟩
    · rename_i e'
      obtain ⟨a, t, fz, h1, h2⟩ := hr.imm b hb
      exact ⟨a, t, fz, by rw [heap_alloc_lt _ _ (heap_lt h1)]; exact h1, by simpa [e'] using h2⟩
  · simp only [grow]; rw [if_neg (by omega)]
  · simp only [bind] at h
    split at h
    · cases h; omega
    · exact ⟨l, h⟩

/-- An object that was reserved gets its block. -/
theorem allocAt {fid : Fid} {Γ : Ctx} (hr : Real fid Γ) (l0 : Nat) (ob : Ob) (o : Obj) (h0 : Γ.σ[l0]? = some ob) (hm : Γ.μ l0 = none)
    (hn : ∀ Γ' : Ctx, Γ' = ⟨Γ.σ, bind Γ.μ l0 Γ.w.heap.size, grow Γ.F Γ.w.heap.size 0, Γ.w.alloc o⟩ → Ext Γ Γ' → RepOb fid Γ' Γ.w.heap.size ob) :
    Real fid ⟨Γ.σ, bind Γ.μ l0 Γ.w.heap.size, grow Γ.F Γ.w.heap.size 0, Γ.w.alloc o⟩ ∧
    Ext Γ ⟨Γ.σ, bind Γ.μ l0 Γ.w.heap.size, grow Γ.F Γ.w.heap.size 0, Γ.w.alloc o⟩ ∧ Frm Γ ⟨Γ.σ, bind Γ.μ l0 Γ.w.heap.size, grow Γ.F Γ.w.heap.size 0, Γ.w.alloc o⟩ := by
  have hlt := (List.getElem?_eq_some_iff.1 h0).1
  have hne : ∀ l b, Γ.μ l = some b → l ≠ l0 := fun l b h e => by subst e; rw [hm] at h; cases h
  have hext := ext_alloc hr.F_size (fun b => hr.F_lt) o Γ.σ (bind Γ.μ l0 Γ.w.heap.size) 0 (Nat.le_refl _)
    (fun l ob' h ht => ⟨⟨ob', h, ht⟩, fun b hb => by simp only [bind]; rw [if_neg (hne l b hb)]; exact hb⟩)
    (fun l m h => ⟨m, h, Nat.le_refl _, fun hs => by simp only [bind]; split <;> simp_all, fun _ b hb => by simp only [bind]; rw [if_neg (hne l b hb)]; exact hb⟩)
  refine ⟨⟨fun l ob' b h1 h2 => ?_, fun l b h => ?_, fun l l' b h h' => ?_, fun b hb => ?_⟩, hext, ⟨fun b hb hn => ⟨heap_alloc_lt _ _ hb, ?_⟩, fun l b h hb => ?_⟩⟩
  · simp only [bind] at h2
    split at h2
    · rename_i e; subst e; cases h2
      simp only at h1; rw [h0] at h1; cases h1
      exact hn _ rfl hext
    · have hd := hr.dom l b h2
      exact RepOb.ext hext (heap_alloc_lt _ _ hd.2) (by simp only [grow]; rw [if_neg (by omega)]) ob' (hr.obs l ob' b h1 h2)
  · simp only [bind] at h
    split at h
    · rename_i e; subst e; cases h; simp [hlt]
    · have := hr.dom l b h
      exact ⟨this.1, by simp; omega⟩
  · simp only [bind] at h h'
    split at h <;> split at h'
    · rename_i e e'; exact e.trans e'.symm
    · cases h; have := (hr.dom l' _ h').2; omega
    · cases h'; have := (hr.dom l _ h).2; omega
    · exact hr.inj l l' b h h'
  · simp only [grow] at hb ⊢
    split at hb
    · omega
    · rename_i e'
      obtain ⟨a, t, fz, h1, h2⟩ := hr.imm b hb
      exact ⟨a, t, fz, by rw [heap_alloc_lt _ _ (heap_lt h1)]; exact h1, by simpa [e'] using h2⟩
  · simp only [grow]; rw [if_neg (by omega)]
  · simp only [bind] at h
    split at h
    · cases h; omega
    · exact ⟨l, h⟩

/-- A tip moves on to a new block. -/
theorem moveTip {fid : Fid} {Γ : Ctx} (hr : Real fid Γ) {l m m' : Nat} (h0 : Γ.σ[l]? = some (.tip m)) (hsome : (Γ.μ l).isSome = true) (hmm : m < m') (arr : Array Value) (e : TypeId) (hn : m' ≤ arr.size) :
    Real fid ⟨Γ.σ.set l (.tip m'), bind Γ.μ l Γ.w.heap.size, grow Γ.F Γ.w.heap.size m', Γ.w.alloc (.cells arr e)⟩ ∧
    Step Γ ⟨Γ.σ.set l (.tip m'), bind Γ.μ l Γ.w.heap.size, grow Γ.F Γ.w.heap.size m', Γ.w.alloc (.cells arr e)⟩ := by
  have hlt := (List.getElem?_eq_some_iff.1 h0).1
  have hset : ∀ j ob, Γ.σ[j]? = some ob → j ≠ l → (Γ.σ.set l (.tip m'))[j]? = some ob := fun j ob h hj => by
    rw [List.getElem?_set_ne (Ne.symm hj)]; exact h
  have hext := ext_alloc hr.F_size (fun b => hr.F_lt) (.cells arr e) (Γ.σ.set l (.tip m')) (bind Γ.μ l Γ.w.heap.size) m' (by simp)
    (fun j ob' h ht => by
      have hj : j ≠ l := fun e => by subst e; rw [h0] at h; cases h; simp [Ob.isTip] at ht
      exact ⟨⟨ob', hset j ob' h hj, ht⟩, fun b hb => by simp only [bind]; rw [if_neg hj]; exact hb⟩)
    (fun j k h => by
      by_cases hj : j = l
      · subst hj; rw [h0] at h; cases h
        exact ⟨m', by simp [hlt], Nat.le_of_lt hmm, fun _ => by simp [bind], fun e => by omega⟩
      · exact ⟨k, hset j _ h hj, Nat.le_refl _, fun hs => by simp only [bind]; rw [if_neg hj]; exact hs, fun _ b hb => by simp only [bind]; rw [if_neg hj]; exact hb⟩)
  refine ⟨⟨fun j ob' b h1 h2 => ?_, fun j b h => ?_, fun j j' b h h' => ?_, fun b hb => ?_⟩, hext, ⟨fun b hb hn => ⟨heap_alloc_lt _ _ hb, ?_⟩, fun j b h hb => ?_⟩, fun j _ h => by simp only [bind]; rw [if_neg (fun e => by subst e; rw [h] at hsome; cases hsome)]; exact h⟩
  · simp only [bind] at h2
    split at h2
    · rename_i e'; subst e'; cases h2
      simp only [List.getElem?_set_self hlt, Option.some.injEq] at h1
      subst h1
      simp [RepOb, grow]; omega
    · rename_i e'
      have hd := hr.dom j b h2
      simp only at h1
      rw [List.getElem?_set_ne (Ne.symm e')] at h1
      exact RepOb.ext hext (heap_alloc_lt _ _ hd.2) (by simp only [grow]; rw [if_neg (by omega)]) ob' (hr.obs j ob' b h1 h2)
  · simp only [bind] at h
    split at h
    · rename_i e'; subst e'; cases h; simp [hlt]
    · have := hr.dom j b h
      exact ⟨by simpa using this.1, by simp; omega⟩
  · simp only [bind] at h h'
    split at h <;> split at h'
    · rename_i e e'; exact e.trans e'.symm
    · cases h; have := (hr.dom j' _ h').2; omega
    · cases h'; have := (hr.dom j _ h).2; omega
    · exact hr.inj j j' b h h'
  · simp only [grow] at hb ⊢
    split at hb
    · rename_i e'; subst e'
      exact ⟨arr, e, (0, 0), heap_alloc_new _ _, by simpa using hn⟩
    · rename_i e'
      obtain ⟨a, t, fz, h1, h2⟩ := hr.imm b hb
      exact ⟨a, t, fz, by rw [heap_alloc_lt _ _ (heap_lt h1)]; exact h1, by simpa [e'] using h2⟩
  · simp only [grow]; rw [if_neg (by omega)]
  · simp only [bind] at h
    split at h
    · cases h; omega
    · exact ⟨j, h⟩

/-- A tip grows where it stands: cells behind it are written. -/
theorem growTip {fid : Fid} {Γ : Ctx} (hr : Real fid Γ) {l m m' b : Nat} {w' : World} (h0 : Γ.σ[l]? = some (.tip m)) (hm : Γ.μ l = some b) (hmm : m < m') (hw : WOnly b Γ.w w')
    {arr arr' : Array Value} {e : TypeId} (ha : Γ.w.heap[b]? = some (.cells arr e (0, 0))) (ha' : w'.heap[b]? = some (.cells arr' e (0, 0))) (hs : arr'.size = arr.size) (hn : m' ≤ arr.size)
    (hpre : ∀ i, i < m → arr'[i]? = arr[i]?) :
    Real fid ⟨Γ.σ.set l (.tip m'), Γ.μ, grow Γ.F b m', w'⟩ ∧ Step Γ ⟨Γ.σ.set l (.tip m'), Γ.μ, grow Γ.F b m', w'⟩ := by
  have hlt := (List.getElem?_eq_some_iff.1 h0).1
  have hFb : Γ.F b = m := (hr.obs l _ b h0 hm).1
  have hext : Ext Γ ⟨Γ.σ.set l (.tip m'), Γ.μ, grow Γ.F b m', w'⟩ := by
    refine ⟨Nat.le_of_eq hw.size.symm, hw.os, hw.tape, hw.output, fun k => ?_, fun k i v hi hv => ?_, fun k a t hk h => ?_, by simp, fun j ob h ht => ?_, fun j k h => ?_⟩
    · simp only [grow]; split
      · rename_i e'; subst e'; omega
      · exact Nat.le_refl _
    · by_cases e' : k = b
      · subst e'
        simp only [World.cell?, ha] at hv
        simp only [World.cell?, ha']
        simpa [hpre i (by omega)] using hv
      · rw [cell?_of_block (hw.other k e')]; exact hv
    · by_cases e' : k = b
      · subst e'; rw [ha] at h; cases h; exact ⟨arr', ha', hs⟩
      · exact ⟨a, by rw [hw.other k e']; exact h, rfl⟩
    · have hj : l ≠ j := fun e => by subst e; rw [h0] at h; cases h; simp [Ob.isTip] at ht
      exact ⟨⟨ob, by rw [List.getElem?_set_ne hj]; exact h, ht⟩, fun _ h => h⟩
    · by_cases hj : l = j
      · subst hj; rw [h0] at h; cases h
        exact ⟨m', by simp [hlt], Nat.le_of_lt hmm, fun h => h, fun e => by omega⟩
      · exact ⟨k, by rw [List.getElem?_set_ne hj]; exact h, Nat.le_refl _, fun h => h, fun _ _ h => h⟩
  refine ⟨⟨fun j ob' k h1 h2 => ?_, fun j k h => ?_, hr.inj, fun k hk => ?_⟩, hext, ⟨fun k hk hn => ?_, fun j k h _ => ⟨j, h⟩⟩, fun _ _ h => h⟩
  · by_cases e' : l = j
    · subst e'
      simp only [List.getElem?_set_self hlt, Option.some.injEq] at h1
      subst h1
      rw [hm] at h2; cases h2
      simp [RepOb, grow]; omega
    · simp only at h1
      rw [List.getElem?_set_ne e'] at h1
      have hb : k ≠ b := fun e'' => by subst e''; exact e' (hr.inj _ _ _ hm h2)
      exact RepOb.ext hext (hw.other k hb) (by simp only [grow]; rw [if_neg hb]) ob' (hr.obs j ob' k h1 h2)
  · have := hr.dom j k h
    exact ⟨by simpa using this.1, by rw [hw.size]; exact this.2⟩
  · simp only [grow] at hk ⊢
    split at hk
    · rename_i e'; subst e'
      exact ⟨arr', e, (0, 0), ha', by simp; omega⟩
    · rename_i e'
      obtain ⟨a, t, fz, h1, h2⟩ := hr.imm k hk
      exact ⟨a, t, fz, by rw [hw.other k e']; exact h1, by simpa [e'] using h2⟩
  · have hb : k ≠ b := fun e' => by subst e'; exact hn l hm
    exact ⟨hw.other k hb, by simp only [grow]; rw [if_neg hb]⟩

/-- A draw. -/
theorem drewStep {fid : Fid} {Γ : Ctx} (hr : Real fid Γ) : Real fid ⟨Γ.σ, Γ.μ, Γ.F, Γ.w.drew⟩ ∧ Step Γ ⟨Γ.σ, Γ.μ, Γ.F, Γ.w.drew⟩ := by
  have hext : Ext Γ ⟨Γ.σ, Γ.μ, Γ.F, Γ.w.drew⟩ := ⟨Nat.le_refl _, rfl, rfl, rfl, fun _ => Nat.le_refl _, fun _ _ _ _ h => h, fun _ arr _ _ h => ⟨arr, h, rfl⟩, Nat.le_refl _,
   fun _ ob h ht => ⟨⟨ob, h, ht⟩, fun _ h => h⟩, fun _ m h => ⟨m, h, Nat.le_refl _, fun h => h, fun _ _ h => h⟩⟩
  exact ⟨⟨fun l ob b h1 h2 => RepOb.ext hext rfl rfl ob (hr.obs l ob b h1 h2), hr.dom, hr.inj, hr.imm⟩, hext, ⟨fun _ _ _ => ⟨rfl, rfl⟩, fun l _ h _ => ⟨l, h⟩⟩, fun _ _ h => h⟩

/-- A block that is nobody's. -/
theorem allocFree {fid : Fid} {Γ : Ctx} (hr : Real fid Γ) (o : Obj) : Real fid ⟨Γ.σ, Γ.μ, Γ.F, Γ.w.alloc o⟩ ∧ Step Γ ⟨Γ.σ, Γ.μ, Γ.F, Γ.w.alloc o⟩ := by
  have hext : Ext Γ ⟨Γ.σ, Γ.μ, Γ.F, Γ.w.alloc o⟩ := by
    refine ⟨by simp, rfl, rfl, rfl, fun _ => Nat.le_refl _, fun b i v hi hv => ?_, fun b arr e hb ha => ⟨arr, ?_, rfl⟩, Nat.le_refl _, fun _ ob h ht => ⟨⟨ob, h, ht⟩, fun _ h => h⟩, fun _ m h => ⟨m, h, Nat.le_refl _, fun h => h, fun _ _ h => h⟩⟩
    · have hb : b < Γ.w.heap.size := hr.F_lt (by omega)
      rw [cell?_of_block (heap_alloc_lt Γ.w o hb)]; exact hv
    · rw [heap_alloc_lt Γ.w o (hr.F_lt hb)]; exact ha
  refine ⟨⟨fun l ob b h1 h2 => RepOb.ext hext (heap_alloc_lt _ _ (hr.dom l b h2).2) rfl ob (hr.obs l ob b h1 h2), fun l b h => ?_, hr.inj, fun b hb => ?_⟩, hext, ⟨fun b hb _ => ⟨heap_alloc_lt _ _ hb, rfl⟩, fun l _ h _ => ⟨l, h⟩⟩, fun _ _ h => h⟩
  · have := hr.dom l b h
    exact ⟨this.1, by simp; omega⟩
  · obtain ⟨a, t, fz, h1, h2⟩ := hr.imm b hb
    exact ⟨a, t, fz, by rw [heap_alloc_lt _ _ (heap_lt h1)]; exact h1, h2⟩
end Go.Pm
