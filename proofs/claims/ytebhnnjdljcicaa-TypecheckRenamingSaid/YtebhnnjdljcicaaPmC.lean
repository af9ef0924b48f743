/- What abstract values mean in a world; how worlds go on. -/
import Derived.Test.YtebhnnjdljcicaaPmB
import Derived.Laws.World
import Derived.CallsIn
import Derived.OrdersIn
namespace Go.Pm

/-- A row of cells in a block, its first F b cells never to be changed. -/
def Row (F : Nat → Nat) (w : World) (b o : Nat) (vs : List Value) : Prop :=
  (∀ i v, vs[i]? = some v → w.cell? ⟨b, o + i, none⟩ = some v) ∧ (0 < vs.length → o + vs.length ≤ F b) ∧ ∀ v ∈ vs, v.oneCell' = true
mutual
def RepD (F : Nat → Nat) (w : World) : D → Value → Prop
  | .lit v, x => x = v ∧ noAgg v = true
  | .sl cs n full, x => ∃ b o cap vs, x = .slice (some ⟨b, o, none⟩) n cap ∧ n ≤ cap ∧ (full = true → cap = n) ∧ RepDs F w cs vs ∧ Row F w b o vs
  | .imm cs o, x => ∃ b o' vs, x = .pointer (some ⟨b, o' + o, none⟩) ∧ RepDs F w cs vs ∧ Row F w b o' vs
  | .agg cs, x => ∃ vs, x = .agg vs.toArray ∧ RepDs F w cs vs
  | .iface t d, x => ∃ y, x = .iface t y ∧ RepD F w d y
def RepDs (F : Nat → Nat) (w : World) : List D → List Value → Prop
  | [], vs => vs = []
  | d :: ds, vs => ∃ x xs, vs = x :: xs ∧ RepD F w d x ∧ RepDs F w ds xs
end

def Ob.isTip : Ob → Bool
  | .tip _ => true
  | _ => false

structure Ctx where
  σ : S
  μ : Nat → Option Nat
  F : Nat → Nat
  w : World

/-- The functions' numbers: of the abstract program, of the given one; which code is which. -/
structure Fid where
  fn : Nat → FuncId
  cr : Nat → Code → PC → Prop
instance : CoeFun Fid (fun _ => Nat → FuncId) := ⟨Fid.fn⟩

def Ctx.fix (Γ : Ctx) (l : Nat) : Prop := ∃ ob, Γ.σ[l]? = some ob ∧ ob.isTip = false
mutual
def Rep (fid : Fid) (Γ : Ctx) : V → Value → Prop
  | .dat d, x => RepD Γ.F Γ.w d x
  | .ptr l o, x => ∃ b, Γ.μ l = some b ∧ x = .pointer (some ⟨b, o, none⟩) ∧ Γ.fix l
  | .gsl cs n sz l, x => ∃ b cap vs m, x = .slice (some ⟨b, 0, none⟩) n cap ∧ n ≤ cap ∧ RepDs Γ.F Γ.w cs vs ∧ Row Γ.F Γ.w b 0 vs ∧ cs ≠ [] ∧
      Γ.σ[l]? = some (.tip m) ∧ (Γ.μ l).isSome = true ∧ cs.length ≤ m ∧
      (cs.length = m → Γ.μ l = some b ∧ ∃ arr e, Γ.w.heap[b]? = some (.cells arr e (0, 0)) ∧ cap * sz ≤ arr.size)
  | .msl l o n cap, x => ∃ b, Γ.μ l = some b ∧ x = .slice (some ⟨b, o, none⟩) n cap ∧ n ≤ cap ∧ Γ.fix l
  | .agg cs, x => ∃ vs, x = .agg vs.toArray ∧ Reps fid Γ cs vs
  | .fn f a b, x => ∃ as bs, x = .func (.func (fid f)) as.toArray bs.toArray ∧ Reps fid Γ a as ∧ Reps fid Γ b bs
  | .mp l, x => ∃ b, Γ.μ l = some b ∧ x = .map (some b) ∧ Γ.fix l
  | .iface t v, x => ∃ y, x = .iface t y ∧ Rep fid Γ v y
  | .tup vs, x => ∃ xs, x = .tuple xs.toArray ∧ Reps fid Γ vs xs
  | .yld l, x => ∃ b, Γ.μ l = some b ∧ x = .func (.yield b) #[] #[] ∧ Γ.fix l
def Reps (fid : Fid) (Γ : Ctx) : List V → List Value → Prop
  | [], vs => vs = []
  | d :: ds, vs => ∃ x xs, vs = x :: xs ∧ Rep fid Γ d x ∧ Reps fid Γ ds xs
end
def RepE (fid : Fid) (Γ : Ctx) : List (Value × V) → List MapEntry → Prop
  | [], es => es = []
  | (k, v) :: r, es => ∃ e es', es = e :: es' ∧ e.key = k ∧ Rep fid Γ v e.val ∧ RepE fid Γ r es'
def FrRep (fid : Fid) (Γ : Ctx) (N : Nat) (fr : Fr) (tmps : Array Value) : Prop :=
  tmps.size = N ∧ ∀ t v, t < N → fr.get t = some v → Rep fid Γ v (tmps.getD t undef)
def Ex.code : Ex → Code
  | .normal => .skip
  | .exit id => .exit id
  | .ret => .ret
def stOf : Nat → LoopState
  | 0 => .ready
  | 1 => .busy
  | 2 => .done
  | _ => .exhausted
def RepOb (fid : Fid) (Γ : Ctx) (b : Nat) : Ob → Prop
  | .cells cs => Γ.F b = 0 ∧ ∃ arr e, Γ.w.heap[b]? = some (.cells arr e (0, 0)) ∧ Reps fid Γ cs arr.toList
  | .map es => Γ.F b = 0 ∧ ∃ ents clock, Γ.w.heap[b]? = some (.map ents clock) ∧ RepE fid Γ es ents.toList
  | .tip m => Γ.F b = m ∧ 0 < m
  | .loop lp => Γ.F b = 0 ∧ ∃ L : Loop, Γ.w.heap[b]? = some (.loop L) ∧ L.params.toList = lp.ps ∧ L.state = stOf lp.st ∧ L.pending = lp.pend.map Ex.code ∧
      ∃ N, fid.cr N L.assign lp.assign ∧ fid.cr N L.body lp.body ∧ (∀ p ∈ lp.ps, p < N) ∧ FrRep fid Γ N lp.fr L.tmps ∧ ∀ l ∈ locsF lp.fr, l < Γ.σ.length

structure Real (fid : Fid) (Γ : Ctx) : Prop where
  obs : ∀ l ob b, Γ.σ[l]? = some ob → Γ.μ l = some b → RepOb fid Γ b ob
  dom : ∀ l b, Γ.μ l = some b → l < Γ.σ.length ∧ b < Γ.w.heap.size
  inj : ∀ l l' b, Γ.μ l = some b → Γ.μ l' = some b → l = l'
  imm : ∀ b, 0 < Γ.F b → ∃ arr e fz, Γ.w.heap[b]? = some (.cells arr e fz) ∧ Γ.F b ≤ arr.size

/-- What goes on: nothing that is read by value changes; objects keep their blocks; a tip may move. -/
structure Ext (Γ Γ' : Ctx) : Prop where
  size : Γ.w.heap.size ≤ Γ'.w.heap.size
  os : Γ'.w.os = Γ.w.os
  tape : Γ'.w.tape = Γ.w.tape
  output : Γ'.w.output = Γ.w.output
  mono : ∀ b, Γ.F b ≤ Γ'.F b
  cell : ∀ b i v, i < Γ.F b → Γ.w.cell? ⟨b, i, none⟩ = some v → Γ'.w.cell? ⟨b, i, none⟩ = some v
  arr : ∀ b arr e, 0 < Γ.F b → Γ.w.heap[b]? = some (.cells arr e (0, 0)) → ∃ arr', Γ'.w.heap[b]? = some (.cells arr' e (0, 0)) ∧ arr'.size = arr.size
  len : Γ.σ.length ≤ Γ'.σ.length
  fix : ∀ l ob, Γ.σ[l]? = some ob → ob.isTip = false → (∃ ob', Γ'.σ[l]? = some ob' ∧ ob'.isTip = false) ∧ ∀ b, Γ.μ l = some b → Γ'.μ l = some b
  tip : ∀ l m, Γ.σ[l]? = some (.tip m) → ∃ m', Γ'.σ[l]? = some (.tip m') ∧ m ≤ m' ∧ ((Γ.μ l).isSome = true → (Γ'.μ l).isSome = true) ∧ (m = m' → ∀ b, Γ.μ l = some b → Γ'.μ l = some b)
/-- What is not among the objects stays as it is; new blocks are new. -/
structure Frm (Γ Γ' : Ctx) : Prop where
  same : ∀ b, b < Γ.w.heap.size → (∀ l, Γ.μ l ≠ some b) → Γ'.w.heap[b]? = Γ.w.heap[b]? ∧ Γ'.F b = Γ.F b
  new : ∀ l b, Γ'.μ l = some b → b < Γ.w.heap.size → ∃ l', Γ.μ l' = some b
/-- What had no block gets none. -/
def Non (Γ Γ' : Ctx) : Prop := ∀ l, l < Γ.σ.length → Γ.μ l = none → Γ'.μ l = none
structure Step (Γ Γ' : Ctx) : Prop where
  ext : Ext Γ Γ'
  frm : Frm Γ Γ'
  non : Non Γ Γ'

theorem Ext.refl (Γ : Ctx) : Ext Γ Γ :=
  ⟨Nat.le_refl _, rfl, rfl, rfl, fun _ => Nat.le_refl _, fun _ _ _ _ h => h, fun _ arr _ _ h => ⟨arr, h, rfl⟩, Nat.le_refl _,
   fun _ ob h ht => ⟨⟨ob, h, ht⟩, fun _ h => h⟩, fun _ m h => ⟨m, h, Nat.le_refl _, fun h => h, fun _ _ h => h⟩⟩
theorem Ext.trans {A B C : Ctx} (h : Ext A B) (k : Ext B C) : Ext A C where
  size := Nat.le_trans h.size k.size
  os := k.os.trans h.os
  tape := k.tape.trans h.tape
  output := k.output.trans h.output
  mono b := Nat.le_trans (h.mono b) (k.mono b)
  cell b i v hi hv := k.cell b i v (Nat.lt_of_lt_of_le hi (h.mono b)) (h.cell b i v hi hv)
  arr b arr e hb ha := by
    obtain ⟨a1, h1, s1⟩ := h.arr b arr e hb ha
    obtain ⟨a2, h2, s2⟩ := k.arr b a1 e (Nat.lt_of_lt_of_le hb (h.mono b)) h1
    exact ⟨a2, h2, s2.trans s1⟩
  len := Nat.le_trans h.len k.len
  fix l ob ho ht := by
    obtain ⟨⟨o1, h1, t1⟩, m1⟩ := h.fix l ob ho ht
    obtain ⟨⟨o2, h2, t2⟩, m2⟩ := k.fix l o1 h1 t1
    exact ⟨⟨o2, h2, t2⟩, fun b hb => m2 b (m1 b hb)⟩
  tip l m hm := by
    obtain ⟨m1, h1, le1, s1, e1⟩ := h.tip l m hm
    obtain ⟨m2, h2, le2, s2, e2⟩ := k.tip l m1 h1
    refine ⟨m2, h2, Nat.le_trans le1 le2, fun hs => s2 (s1 hs), fun hm b hb => ?_⟩
    have : m = m1 := by omega
    subst this
    exact e2 hm b (e1 rfl b hb)
theorem Frm.refl (Γ : Ctx) : Frm Γ Γ := ⟨fun _ _ _ => ⟨rfl, rfl⟩, fun l _ h _ => ⟨l, h⟩⟩
theorem Frm.trans {A B C : Ctx} (hs : A.w.heap.size ≤ B.w.heap.size) (h : Frm A B) (k : Frm B C) : Frm A C where
  same b hb hn := by
    obtain ⟨h1, h2⟩ := h.same b hb hn
    have hn' : ∀ l, B.μ l ≠ some b := fun l hl => by
      obtain ⟨l', hl'⟩ := h.new l b hl hb
      exact hn l' hl'
    obtain ⟨k1, k2⟩ := k.same b (Nat.lt_of_lt_of_le hb hs) hn'
    exact ⟨k1.trans h1, k2.trans h2⟩
  new l b hl hb := by
    obtain ⟨l', hl'⟩ := k.new l b hl (Nat.lt_of_lt_of_le hb hs)
    exact h.new l' b hl' hb
theorem Step.refl (Γ : Ctx) : Step Γ Γ := ⟨.refl _, .refl _, fun _ _ h => h⟩
theorem Step.trans {A B C : Ctx} (h : Step A B) (k : Step B C) : Step A C := ⟨h.ext.trans k.ext, .trans h.ext.size h.frm k.frm, fun l hl hn => k.non l (Nat.lt_of_lt_of_le hl h.ext.len) (h.non l hl hn)⟩

theorem Row.ext {Γ Γ' : Ctx} (h : Ext Γ Γ') {b o : Nat} {vs : List Value} (hr : Row Γ.F Γ.w b o vs) : Row Γ'.F Γ'.w b o vs := by
  refine ⟨fun i v hi => ?_, fun hp => Nat.le_trans (hr.2.1 hp) (h.mono b), hr.2.2⟩
  have hlt : i < vs.length := by
    rcases Nat.lt_or_ge i vs.length with h' | h'
    · exact h'
    · rw [List.getElem?_eq_none h'] at hi; cases hi
  have hp : 0 < vs.length := by omega
  exact h.cell b (o + i) v (by have := hr.2.1 hp; omega) (hr.1 i v hi)

mutual
theorem RepD.ext {Γ Γ' : Ctx} (h : Ext Γ Γ') : ∀ (d : D) (x : Value), RepD Γ.F Γ.w d x → RepD Γ'.F Γ'.w d x
  | .lit v, x, hr => by simpa only [RepD] using hr
  | .sl cs n full, x, hr => by
    simp only [RepD] at hr ⊢
    obtain ⟨b, o, cap, vs, h1, h2, h3, h4, h5⟩ := hr
    exact ⟨b, o, cap, vs, h1, h2, h3, RepDs.ext h cs vs h4, h5.ext h⟩
  | .imm cs o, x, hr => by
    simp only [RepD] at hr ⊢
    obtain ⟨b, o', vs, h1, h4, h5⟩ := hr
    exact ⟨b, o', vs, h1, RepDs.ext h cs vs h4, h5.ext h⟩
  | .agg cs, x, hr => by
    simp only [RepD] at hr ⊢
    obtain ⟨vs, h1, h2⟩ := hr
    exact ⟨vs, h1, RepDs.ext h cs vs h2⟩
  | .iface t d, x, hr => by
    simp only [RepD] at hr ⊢
    obtain ⟨y, h1, h2⟩ := hr
    exact ⟨y, h1, RepD.ext h d y h2⟩
theorem RepDs.ext {Γ Γ' : Ctx} (h : Ext Γ Γ') : ∀ (ds : List D) (xs : List Value), RepDs Γ.F Γ.w ds xs → RepDs Γ'.F Γ'.w ds xs
  | [], xs, hr => by simpa only [RepDs] using hr
  | d :: ds, xs, hr => by
    simp only [RepDs] at hr ⊢
    obtain ⟨y, ys, h1, h2, h3⟩ := hr
    exact ⟨y, ys, h1, RepD.ext h d y h2, RepDs.ext h ds ys h3⟩
end
theorem Ctx.fix.ext {Γ Γ' : Ctx} (h : Ext Γ Γ') {l : Nat} (hf : Γ.fix l) : Γ'.fix l := by
  obtain ⟨ob, h1, h2⟩ := hf
  exact (h.fix l ob h1 h2).1
theorem μ_ext {Γ Γ' : Ctx} (h : Ext Γ Γ') {l b : Nat} (hf : Γ.fix l) (hm : Γ.μ l = some b) : Γ'.μ l = some b := by
  obtain ⟨ob, h1, h2⟩ := hf
  exact (h.fix l ob h1 h2).2 b hm
theorem RepDs.length {F : Nat → Nat} {w : World} : ∀ {ds : List D} {xs : List Value}, RepDs F w ds xs → xs.length = ds.length
  | [], xs, hr => by simp only [RepDs] at hr; simp [hr]
  | d :: ds, xs, hr => by
    simp only [RepDs] at hr
    obtain ⟨y, ys, h1, _, h3⟩ := hr
    simp [h1, RepDs.length h3]
mutual
theorem Rep.ext {fid : Fid} {Γ Γ' : Ctx} (h : Ext Γ Γ') : ∀ (v : V) (x : Value), Rep fid Γ v x → Rep fid Γ' v x
  | .dat d, x, hr => by simp only [Rep] at hr ⊢; exact RepD.ext h d x hr
  | .ptr l o, x, hr => by
    simp only [Rep] at hr ⊢
    obtain ⟨b, h1, h2, h3⟩ := hr
    exact ⟨b, μ_ext h h3 h1, h2, h3.ext h⟩
  | .gsl cs n sz l, x, hr => by
    simp only [Rep] at hr ⊢
    obtain ⟨b, cap, vs, m, h1, h2, h3, h4, h5, h6, h7, h8, h9⟩ := hr
    obtain ⟨m', t1, t2, t3, t4⟩ := h.tip l m h6
    refine ⟨b, cap, vs, m', h1, h2, RepDs.ext h cs vs h3, h4.ext h, h5, t1, t3 h7, by omega, fun hm => ?_⟩
    have : cs.length = m := by omega
    obtain ⟨k1, arr, e, k2, k3⟩ := h9 this
    have hF : 0 < Γ.F b := by
      have hl := RepDs.length h3
      have hp : 0 < vs.length := by rw [hl]; exact List.length_pos_iff.2 h5
      have := h4.2.1 hp; omega
    obtain ⟨arr', a1, a2⟩ := h.arr b arr e hF k2
    exact ⟨t4 (by omega) b k1, arr', e, a1, by omega⟩
  | .msl l o n cap, x, hr => by
    simp only [Rep] at hr ⊢
    obtain ⟨b, h1, h2, h3, h4⟩ := hr
    exact ⟨b, μ_ext h h4 h1, h2, h3, h4.ext h⟩
  | .agg cs, x, hr => by
    simp only [Rep] at hr ⊢
    obtain ⟨vs, h1, h2⟩ := hr
    exact ⟨vs, h1, Reps.ext h cs vs h2⟩
  | .fn f a b, x, hr => by
    simp only [Rep] at hr ⊢
    obtain ⟨as, bs, h1, h2, h3⟩ := hr
    exact ⟨as, bs, h1, Reps.ext h a as h2, Reps.ext h b bs h3⟩
  | .mp l, x, hr => by
    simp only [Rep] at hr ⊢
    obtain ⟨b, h1, h2, h3⟩ := hr
    exact ⟨b, μ_ext h h3 h1, h2, h3.ext h⟩
  | .iface t v, x, hr => by
    simp only [Rep] at hr ⊢
    obtain ⟨y, h1, h2⟩ := hr
    exact ⟨y, h1, Rep.ext h v y h2⟩
  | .tup vs, x, hr => by
    simp only [Rep] at hr ⊢
    obtain ⟨xs, h1, h2⟩ := hr
    exact ⟨xs, h1, Reps.ext h vs xs h2⟩
  | .yld l, x, hr => by
    simp only [Rep] at hr ⊢
    obtain ⟨b, h1, h2, h3⟩ := hr
    exact ⟨b, μ_ext h h3 h1, h2, h3.ext h⟩
theorem Reps.ext {fid : Fid} {Γ Γ' : Ctx} (h : Ext Γ Γ') : ∀ (vs : List V) (xs : List Value), Reps fid Γ vs xs → Reps fid Γ' vs xs
  | [], xs, hr => by simpa only [Reps] using hr
  | d :: ds, xs, hr => by
    simp only [Reps] at hr ⊢
    obtain ⟨y, ys, h1, h2, h3⟩ := hr
    exact ⟨y, ys, h1, Rep.ext h d y h2, Reps.ext h ds ys h3⟩
end
theorem FrRep.ext {fid : Fid} {Γ Γ' : Ctx} (h : Ext Γ Γ') {N : Nat} {fr : Fr} {tmps : Array Value} (hf : FrRep fid Γ N fr tmps) : FrRep fid Γ' N fr tmps :=
  ⟨hf.1, fun t v ht hv => Rep.ext h _ _ (hf.2 t v ht hv)⟩
theorem RepE.ext {fid : Fid} {Γ Γ' : Ctx} (h : Ext Γ Γ') : ∀ (es : List (Value × V)) (xs : List MapEntry), RepE fid Γ es xs → RepE fid Γ' es xs
  | [], xs, hr => by simpa only [RepE] using hr
  | (k, v) :: r, xs, hr => by
    simp only [RepE] at hr ⊢
    obtain ⟨e, es, h1, h2, h3, h4⟩ := hr
    exact ⟨e, es, h1, h2, Rep.ext h v e.val h3, RepE.ext h r es h4⟩
theorem Reps.length {fid : Fid} {Γ : Ctx} : ∀ {vs : List V} {xs : List Value}, Reps fid Γ vs xs → xs.length = vs.length
  | [], xs, hr => by simp only [Reps] at hr; simp [hr]
  | d :: ds, xs, hr => by
    simp only [Reps] at hr
    obtain ⟨y, ys, h1, _, h3⟩ := hr
    simp [h1, Reps.length h3]
/-- An object that lies as it lay means what it meant. -/
theorem RepOb.ext {fid : Fid} {Γ Γ' : Ctx} (h : Ext Γ Γ') {b : Nat} (hh : Γ'.w.heap[b]? = Γ.w.heap[b]?) (hF : Γ'.F b = Γ.F b) : ∀ ob, RepOb fid Γ b ob → RepOb fid Γ' b ob
  | .cells cs, hr => by
    simp only [RepOb] at hr ⊢
    obtain ⟨h1, arr, e, h2, h3⟩ := hr
    exact ⟨hF.trans h1, arr, e, hh.trans h2, Reps.ext h cs _ h3⟩
  | .map es, hr => by
    simp only [RepOb] at hr ⊢
    obtain ⟨h1, arr, e, h2, h3⟩ := hr
    exact ⟨hF.trans h1, arr, e, hh.trans h2, RepE.ext h es _ h3⟩
  | .tip m, hr => by
    simp only [RepOb] at hr ⊢
    exact ⟨hF.trans hr.1, hr.2⟩
  | .loop lp, hr => by
    simp only [RepOb] at hr ⊢
    obtain ⟨h1, L, h2, h3, h4, h5, N, h6, h7, h8, h9, h10⟩ := hr
    exact ⟨hF.trans h1, L, hh.trans h2, h3, h4, h5, N, h6, h7, h8, FrRep.ext h h9, fun l hl => Nat.lt_of_lt_of_le (h10 l hl) h.len⟩

/-! ## frames -/
theorem getD_set_same {tmps : Array Value} {d : Nat} {x : Value} (h : d < tmps.size) : (tmps.setIfInBounds d x).getD d undef = x := by
  simp [Array.getD, h]
theorem getD_set_other {tmps : Array Value} {d t : Nat} {x : Value} (h : d ≠ t) : (tmps.setIfInBounds d x).getD t undef = tmps.getD t undef := by
  simp only [Array.getD_eq_getD_getElem?, Array.getElem?_setIfInBounds_ne h]
theorem FrRep.put {fid : Fid} {Γ : Ctx} {N : Nat} {fr : Fr} {a : Act} {dst : Option Nat} {v : V} {x : Value} (hf : FrRep fid Γ N fr a.tmps)
    (hd : ∀ d, dst = some d → d < N) (hr : Rep fid Γ v x) : FrRep fid Γ N (fr.put dst v) (a.put dst x).tmps := by
  cases dst with
  | none => exact hf
  | some d =>
    refine ⟨by simp [Act.put, hf.1], fun t u ht hu => ?_⟩
    simp only [Fr.put, Fr.get] at hu
    simp only [Act.put]
    split at hu
    · rename_i e
      subst e
      cases hu
      rw [getD_set_same (by rw [hf.1]; exact hd _ rfl)]
      exact hr
    · rename_i e
      rw [getD_set_other e]
      exact hf.2 t u ht hu
theorem Fr.get_keep {fr : Fr} : ∀ {ks : List Nat} {t : Nat} {v : V}, (fr.keep ks).get t = some v → fr.get t = some v
  | [], t, v, h => by simp [Fr.keep, Fr.get] at h
  | k :: ks, t, v, h => by
    simp only [Fr.keep] at h
    split at h
    · rename_i u hu
      simp only [Fr.get] at h
      split at h
      · rename_i e; subst e; cases h; exact hu
      · exact Fr.get_keep h
    · exact Fr.get_keep h
theorem FrRep.keep {fid : Fid} {Γ : Ctx} {N : Nat} {fr : Fr} {tmps : Array Value} (hf : FrRep fid Γ N fr tmps) (ks : List Nat) : FrRep fid Γ N (fr.keep ks) tmps :=
  ⟨hf.1, fun t v ht hv => hf.2 t v ht (Fr.get_keep hv)⟩
end Go.Pm
