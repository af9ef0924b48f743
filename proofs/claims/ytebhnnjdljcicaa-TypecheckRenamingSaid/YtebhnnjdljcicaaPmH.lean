/- More operations that only compute. -/
import Derived.Test.YtebhnnjdljcicaaPmG
import Derived.Laws.Small
set_option linter.unusedSimpArgs false
set_option linter.unusedVariables false
namespace Go.Pm
variable {P : Program} {ids : FuncId → Option Nat} {fid : Fid} {N : Nat}
section
variable {Γ : Ctx} {fr : Fr} {ρ : Operand → Value} {o : Oper} {v : V} {σ' : S} {C : Task → Option Res}

theorem Rep_lit {v x : Value} (h : Rep fid Γ (.dat (.lit v)) x) : x = v ∧ noAgg v = true := by simpa [Rep, RepD] using h
theorem mkLit {v : Value} (h : noAgg v = true) : Rep fid Γ (.dat (.lit v)) v := by simp [Rep, RepD, h]

theorem c_mov (hr : Real fid Γ) {x : Operand} {u : V} (ho : o.op = .move x ∨ o.op = .assign x) (hu : Rep fid Γ u (ρ x)) : Comes P fid Γ ρ o u Γ.σ := by
  refine .pure hr (x := ρ x) ?_ hu
  rcases ho with ho | ho <;> simp [execOp, ho]
theorem c_pick (hr : Real fid Γ) {c x y : Operand} {u u' : V} {b : Bool} (ho : o.op = .pick c x y) (hc : Rep fid Γ (.dat (.lit (.bool b))) (ρ c)) (hu : b = true → Rep fid Γ u (ρ x)) (hu' : b = false → Rep fid Γ u' (ρ y)) :
    Comes P fid Γ ρ o (if b then u else u') Γ.σ := by
  have h := (Rep_lit hc).1
  cases b with
  | true => exact .pure hr (x := ρ x) (by simp [execOp, ho, h, asBool]) (hu rfl)
  | false => exact .pure hr (x := ρ y) (by simp [execOp, ho, h, asBool]) (hu' rfl)
theorem binV_run {op : BinOp} {t : TypeId} {x y : Operand} {A B r : Value} (h : binV op A B = some r) (w : World) :
    (do eqGuard op t x y A B; binOp op t A B : Sem Value).run P w = .ok r w ∧ noAgg r = true := by
  cases A with
  | int k a =>
    cases B with
    | int k' b =>
      simp only [binV] at h
      split at h
      · rename_i hk
        subst hk
        cases op <;> simp only at h <;> first
          | (cases h; done)
          | (split at h
             · cases h
             · rename_i hb; cases h
               simp [eqGuard, binOp, Op.intDiv, hb, noAgg])
          | (cases h; simp [eqGuard, binOp, Op.intArith, Op.intCmp, noAgg]; done)
          | (cases h; simp [eqGuard, binOp, Op.intArith, Op.intCmp, noAgg, eqI, bne]; done)
      · cases h
    | _ => simp [binV] at h
  | string a =>
    cases B with
    | string b =>
      cases op <;> simp only [binV] at h <;> first
        | (cases h; done)
        | (split at h
           · cases h
           · rename_i hb; cases h
             simp only [eqGuard, binOp, Op.stringOp, if_neg hb]
             simp [noAgg])
        | (cases h; simp [eqGuard, binOp, Op.stringOp, noAgg]; done)
        | (cases h; simp [eqGuard, binOp, Op.stringOp, noAgg, eqS]; done)
    | _ => simp [binV] at h
  | _ => simp [binV] at h
theorem c_bin (hr : Real fid Γ) {op : BinOp} {t t' : TypeId} {x y : Operand} {A B r : Value} (ho : o.op = .binOp op t x y t') (hx : Rep fid Γ (.dat (.lit A)) (ρ x)) (hy : Rep fid Γ (.dat (.lit B)) (ρ y))
    (h : binV op A B = some r) : Comes P fid Γ ρ o (.dat (.lit r)) Γ.σ := by
  obtain ⟨h1, h2⟩ := binV_run (P := P) (t := t) (x := x) (y := y) h Γ.w
  refine .pure hr (x := r) ?_ (mkLit h2)
  simp only [execOp, ho, (Rep_lit hx).1, (Rep_lit hy).1]
  rw [Sem.run_bind, h1]
  simp
theorem c_eqb (hr : Real fid Γ) {op : BinOp} {t t' : TypeId} {x y : Operand} {a b : Bool} (neg : Bool) (hop : op = if neg then .neq else .eql) (ho : o.op = .binOp op t x y t') (ht : P.underlying t = some .bool)
    (hx : Rep fid Γ (.dat (.lit (.bool a))) (ρ x)) (hy : Rep fid Γ (.dat (.lit (.bool b))) (ρ y)) : Comes P fid Γ ρ o (.bool (if neg then !(a == b) else a == b)) Γ.σ := by
  refine .pure hr (x := .bool (if neg then !(a == b) else a == b)) ?_ (mkLit rfl)
  simp only [execOp, ho, (Rep_lit hx).1, (Rep_lit hy).1]
  subst hop
  cases neg
  · simp only [Bool.false_eq_true, if_false, eqGuard, binOp, Sem.run_bind, run_equal_bool _ t a b ht, Result.andThen_ok]
    simp
  · simp only [if_true, eqGuard, binOp, Sem.run_bind, run_equal_bool _ t a b ht, Result.andThen_ok]
    simp
theorem c_un (hr : Real fid Γ) {op : UnOp} {t : TypeId} {x : Operand} {A r : Value} (ho : o.op = .unOp op t x) (hx : Rep fid Γ (.dat (.lit A)) (ρ x))
    (h : unV op A = some r) : Comes P fid Γ ρ o (.dat (.lit r)) Γ.σ := by
  have key : (Op.unary op A).run P Γ.w = .ok r Γ.w ∧ noAgg r = true := by
    cases A <;> cases op <;> simp only [unV] at h <;> first
      | (cases h; done)
      | (cases h; simp [Op.unary, Op.intArith, noAgg])
  refine .pure hr (x := r) ?_ (mkLit key.2)
  simp only [execOp, ho, (Rep_lit hx).1]
  rw [Sem.run_bind, key.1]
  simp
theorem c_conv (hr : Real fid Γ) {k : CK} {s t : TypeId} {x : Operand} {A r : Value} {d : TypeDesc} (ho : o.op = .convert s t x) (hx : Rep fid Γ (.dat (.lit A)) (ρ x))
    (hs : P.underlying s = some d) (ht : (∃ j, k = .int j ∧ P.underlying t = some (.int j)) ∨ (k = .intStr ∧ P.underlying t = some .string) ∨ (k = .strStr ∧ P.underlying t = some .string))
    (h : convV k A = some r) : Comes P fid Γ ρ o (.dat (.lit r)) Γ.σ := by
  have key : (convert s t A).run P Γ.w = .ok r Γ.w ∧ noAgg r = true := by
    rcases ht with ⟨j, rfl, ht⟩ | ⟨rfl, ht⟩ | ⟨rfl, ht⟩ <;> cases A <;> simp only [convV] at h <;> first
      | (cases h; done)
      | (cases h
         simp only [convert, Sem.run_bind, run_underlying hs, run_underlying ht, Result.andThen_ok]
         simp [Conv.intToInt, Conv.intToString, noAgg])
  refine .pure hr (x := r) ?_ (mkLit key.2)
  simp only [execOp, ho, (Rep_lit hx).1]
  rw [Sem.run_bind, key.1]
  simp
theorem c_nilchk (hr : Real fid Γ) {x : Operand} {u : V} (ho : o.op = .nilCheck x) (hu : Rep fid Γ u (ρ x)) (h : (∃ l k, u = .ptr l k) ∨ ∃ cs k, u = .dat (.imm cs k)) : Comes P fid Γ ρ o u Γ.σ := by
  have : ∃ a, ρ x = .pointer (some a) := by
    rcases h with ⟨l, k, rfl⟩ | ⟨cs, k, rfl⟩
    · simp only [Rep] at hu; obtain ⟨b, _, h, _⟩ := hu; exact ⟨_, h⟩
    · simp only [Rep, RepD] at hu; obtain ⟨b, _, _, h, _⟩ := hu; exact ⟨_, h⟩
  obtain ⟨a, ha⟩ := this
  refine .pure hr (x := ρ x) ?_ hu
  simp [execOp, ho, ha]
theorem addrAdd_sound {k : Nat} {p q : V} {x : Value} (hp : Rep fid Γ p x) (h : addrAdd k p = some q) : ∃ a, x = .pointer (some a) ∧ Rep fid Γ q (.pointer (some (a.add k))) := by
  unfold addrAdd at h
  split at h
  · cases h
    simp only [Rep] at hp ⊢
    obtain ⟨b, h1, rfl, h2⟩ := hp
    exact ⟨_, rfl, b, h1, by rw [add_none], h2⟩
  · cases h
    simp only [Rep, RepD] at hp ⊢
    obtain ⟨b, o', vs, rfl, h1, h2⟩ := hp
    exact ⟨_, rfl, b, o', vs, by rw [add_none, Nat.add_assoc], h1, h2⟩
  · cases h
theorem c_fieldAddr (hr : Real fid Γ) {s : TypeId} {f : Nat} {x : Operand} {p q : V} {fields : Array Field} {fd : Field} {n : Nat} (ho : o.op = .fieldAddr s x f) (hp : Rep fid Γ p (ρ x))
    (hs : P.underlying s = some (.struct fields)) (hf : fields[f]? = some fd) (hn : sizeT P fd.type = some n) (h0 : n ≠ 0) (h : addrAdd fd.offset p = some q) : Comes P fid Γ ρ o q Γ.σ := by
  obtain ⟨a, h1, h2⟩ := addrAdd_sound hp h
  refine .pure hr ?_ h2
  simp only [execOp, ho, Instr.fieldAt, h1, Instr.sureAddr, Sem.run_bind, run_underlying hs, Result.andThen_ok, hf, fieldPlace, run_sizeOf hn]
  simp [h0]
theorem aggCells_sound {u : V} {x : Value} {cs : List V} (hu : Rep fid Γ u x) (h : u.aggCells = some cs) : ∃ xs, x = .agg xs.toArray ∧ Reps fid Γ cs xs := by
  unfold V.aggCells at h
  split at h
  · cases h
    simp only [Rep, RepD] at hu
    obtain ⟨vs, rfl, h⟩ := hu
    exact ⟨vs, rfl, Reps_dat.2 h⟩
  · cases h
    simpa only [Rep] using hu
  · cases h
theorem run_part {t : TypeId} {agg : Bool} {off n : Nat} {xs : List Value} {cs vs : List V} {u : V} (hs : (agg = true ∧ isAggT P t = some true ∧ sizeT P t = some n) ∨ (agg = false ∧ isAggT P t = some false ∧ n = 1))
    (hx : Reps fid Γ cs xs) (hc : cutCells cs off n = some vs) (hu : ofCells agg vs = some u) (w : World) : ∃ y, (part t xs.toArray off).run P w = .ok y w ∧ Rep fid Γ u y := by
  obtain ⟨c1, c2, c3⟩ := cutCells_eq hc
  have h4 : Reps fid Γ vs ((xs.drop off).take n) := by rw [c1]; exact Reps_take (Reps_drop hx off) n
  rcases hs with ⟨rfl, ha, hsz⟩ | ⟨rfl, ha, rfl⟩
  · rcases Reps_ofCells h4 hu with ⟨_, h5⟩ | ⟨h5, _⟩
    · refine ⟨_, ?_, h5⟩
      simp only [part, Sem.run_bind, run_isAgg ha, Result.andThen_ok, if_true, run_sizeOf hsz, Sem.run_pure]
      congr 2
      apply Array.ext'
      simp [List.take_drop]
    · cases h5
  · rcases Reps_ofCells h4 hu with ⟨h5, _⟩ | ⟨_, x, hx', h5⟩
    · cases h5
    · refine ⟨x, ?_, h5⟩
      have : xs[off]? = some x := by
        have : ((xs.drop off).take 1)[0]? = some x := by rw [hx']; rfl
        simpa using this
      simp only [part, Sem.run_bind, run_isAgg ha, Result.andThen_ok]
      simp [this]
theorem c_field (hr : Real fid Γ) {s : TypeId} {f : Nat} {x : Operand} {p u : V} {agg : Bool} {n : Nat} {fields : Array Field} {fd : Field} {cs vs : List V} (ho : o.op = .field s x f) (hp : Rep fid Γ p (ρ x))
    (hs : P.underlying s = some (.struct fields)) (hf : fields[f]? = some fd) (hn : (agg = true ∧ isAggT P fd.type = some true ∧ sizeT P fd.type = some n) ∨ (agg = false ∧ isAggT P fd.type = some false ∧ n = 1))
    (ha : p.aggCells = some cs) (hc : cutCells cs fd.offset n = some vs) (hu : ofCells agg vs = some u) : Comes P fid Γ ρ o u Γ.σ := by
  obtain ⟨xs, h1, h2⟩ := aggCells_sound hp ha
  obtain ⟨y, h3, h4⟩ := run_part hn h2 hc hu Γ.w
  refine .pure hr ?_ h4
  simp only [execOp, ho, Instr.field, h1, asAgg, Sem.run_bind, run_underlying hs, Result.andThen_ok, hf]
  simp [h3]
theorem c_indexAddr (hr : Real fid Γ) {t e : TypeId} {n : Nat} {x i : Operand} {p q : V} {k : IntKind} {j : Int} (ho : o.op = .indexAddr t x i) (hp : Rep fid Γ p (ρ x)) (hi : Rep fid Γ (.dat (.lit (.int k j))) (ρ i))
    (ht : P.underlying t = some (.slice e)) (hn : sizeT P e = some n) (h : sliceAddr n p j = some q) : Comes P fid Γ ρ o q Γ.σ := by
  have key : ∃ a len cap, ρ x = .slice (some a) len cap ∧ 0 ≤ j ∧ j < len ∧ Rep fid Γ q (.pointer (some (a.add (j.toNat * n)))) := by
    unfold sliceAddr at h
    split at h
    · split at h
      · rename_i hj
        cases h
        simp only [Rep, RepD] at hp ⊢
        obtain ⟨b, o', cap, vs, hx, h2, h3, h4, h5⟩ := hp
        exact ⟨_, _, _, hx, hj.1, hj.2, b, o', vs, by rw [add_none], h4, h5⟩
      · cases h
    · split at h
      · rename_i hj
        cases h
        simp only [Rep, RepD] at hp ⊢
        obtain ⟨b, cap, vs, m, hx, h2, h3, h4, h5⟩ := hp
        exact ⟨_, _, _, hx, hj.1, hj.2, b, 0, vs, by rw [add_none], h3, h4⟩
      · cases h
    · split at h
      · rename_i hj
        cases h
        simp only [Rep] at hp ⊢
        obtain ⟨b, h1, hx, h2, h3⟩ := hp
        exact ⟨_, _, _, hx, hj.1, hj.2, b, h1, by rw [add_none], h3⟩
      · cases h
    · cases h
  obtain ⟨a, len, cap, h1, h2, h3, h4⟩ := key
  refine .pure hr ?_ h4
  simp only [execOp, ho, Instr.indexAt, (Rep_lit hi).1, asIntOf, h1, Sem.run_bind, Sem.run_pure, Result.andThen_ok, run_underlying ht]
  simp [run_sizeOf hn, h2, h3]
theorem c_indexAddrA (hr : Real fid Γ) {t e : TypeId} {n len : Nat} {x i : Operand} {p q : V} {k : IntKind} {j : Int} (ho : o.op = .indexAddr t x i) (hp : Rep fid Γ p (ρ x)) (hi : Rep fid Γ (.dat (.lit (.int k j))) (ρ i))
    (ht : P.underlying t = some (.array len e)) (hn : sizeT P e = some n) (hj : 0 ≤ j ∧ j < len) (h : addrAdd (j.toNat * n) p = some q) : Comes P fid Γ ρ o q Γ.σ := by
  obtain ⟨a, h1, h2⟩ := addrAdd_sound hp h
  refine .pure hr ?_ h2
  simp only [execOp, ho, Instr.indexAt, (Rep_lit hi).1, asIntOf, h1, Instr.sureAddr, Sem.run_bind, Sem.run_pure, Result.andThen_ok, run_underlying ht]
  simp [run_sizeOf hn, hj.1, hj.2]
theorem c_indexA (hr : Real fid Γ) {t e : TypeId} {agg : Bool} {n len : Nat} {x i : Operand} {p u : V} {k : IntKind} {j : Int} {cs vs : List V} (ho : o.op = .index t x i) (hp : Rep fid Γ p (ρ x)) (hi : Rep fid Γ (.dat (.lit (.int k j))) (ρ i))
    (ht : P.underlying t = some (.array len e)) (hn : (agg = true ∧ isAggT P e = some true ∧ sizeT P e = some n) ∨ (agg = false ∧ isAggT P e = some false ∧ n = 1 ∧ sizeT P e = some 1)) (hj : 0 ≤ j ∧ j < len)
    (ha : p.aggCells = some cs) (hc : cutCells cs (j.toNat * n) n = some vs) (hu : ofCells agg vs = some u) : Comes P fid Γ ρ o u Γ.σ := by
  obtain ⟨xs, h1, h2⟩ := aggCells_sound hp ha
  obtain ⟨y, h3, h4⟩ := run_part (P := P) (t := e) (by rcases hn with h | ⟨a, b, c, _⟩; exact .inl h; exact .inr ⟨a, b, c⟩) h2 hc hu Γ.w
  have hsz : sizeT P e = some n := by rcases hn with ⟨_, _, h⟩ | ⟨_, _, rfl, h⟩ <;> exact h
  refine .pure hr ?_ h4
  simp only [execOp, ho, Instr.index, (Rep_lit hi).1, asIntOf, h1, Sem.run_bind, Sem.run_pure, Result.andThen_ok, run_underlying ht]
  simp [run_sizeOf hsz, hj.1, hj.2, h3]
theorem c_indexS (hr : Real fid Γ) {t : TypeId} {x i : Operand} {k : IntKind} {j : Int} {s : ByteArray} {c : UInt8} (ho : o.op = .index t x i) (hp : Rep fid Γ (.dat (.lit (.string s))) (ρ x)) (hi : Rep fid Γ (.dat (.lit (.int k j))) (ρ i))
    (ht : P.underlying t = some .string) (hj : 0 ≤ j) (hs : s[j.toNat]? = some c) : Comes P fid Γ ρ o (.dat (.lit (.int .u8 c.toNat))) Γ.σ := by
  refine .pure hr ?_ (mkLit rfl)
  simp only [execOp, ho, Instr.index, (Rep_lit hi).1, (Rep_lit hp).1, asIntOf, Sem.run_bind, Sem.run_pure, Result.andThen_ok, run_underlying ht]
  simp [hj, hs]
theorem c_len (hr : Real fid Γ) {k : LK} {t : TypeId} {x : Operand} {p : V} {n : Int} {c : Call} (ho : o.op = .call c) (hcal : c.callee = .builtin .len) (hargs : c.args.toList = [x]) (hts : c.argTypes.toList = [t]) (hp : Rep fid Γ p (ρ x))
    (ht : (k = .str ∧ P.underlying t = some .string) ∨ (k = .sl ∧ ∃ e, P.underlying t = some (.slice e)) ∨ (k = .mp ∧ ∃ a b, P.underlying t = some (.map a b))) (h : p.len Γ.σ k = some n) : Comes P fid Γ ρ o (.dat (.lit (.int .i64 n))) Γ.σ := by
  have ha : c.args = #[x] := by apply Array.ext'; simpa using hargs
  have hb : c.argTypes = #[t] := by apply Array.ext'; simpa using hts
  have key : (Builtin.len_ #[t] o.type #[ρ x]).run P Γ.w = .ok (.int .i64 n) Γ.w := by
    unfold V.len at h
    simp only [Builtin.len_]
    split at h
    · cases h
      rcases ht with ⟨h, _⟩ | ⟨_, e, ht⟩ | ⟨h, _⟩ <;> first | cases h; done | skip
      rw [(Rep_lit hp).1]
      simp [run_underlying ht, goInt]
    · cases h
      rcases ht with ⟨_, ht⟩ | ⟨h, _⟩ | ⟨h, _⟩ <;> first | cases h; done | skip
      rw [(Rep_lit hp).1]
      simp [run_underlying ht, goInt]
    · cases h
      rcases ht with ⟨h, _⟩ | ⟨_, e, ht⟩ | ⟨h, _⟩ <;> first | cases h; done | skip
      simp only [Rep, RepD] at hp
      obtain ⟨b, o', cap, vs, hx, _⟩ := hp
      rw [hx]
      simp [run_underlying ht, goInt]
    · cases h
      rcases ht with ⟨h, _⟩ | ⟨_, e, ht⟩ | ⟨h, _⟩ <;> first | cases h; done | skip
      simp only [Rep] at hp
      obtain ⟨b, cap, vs, m, hx, _⟩ := hp
      rw [hx]
      simp [run_underlying ht, goInt]
    · cases h
      rcases ht with ⟨h, _⟩ | ⟨_, e, ht⟩ | ⟨h, _⟩ <;> first | cases h; done | skip
      simp only [Rep] at hp
      obtain ⟨b, _, hx, _⟩ := hp
      rw [hx]
      simp [run_underlying ht, goInt]
    · split at h
      · rename_i es hes
        cases h
        rcases ht with ⟨h, _⟩ | ⟨h, _⟩ | ⟨_, a, b, ht⟩ <;> first | cases h; done | skip
        simp only [Rep] at hp
        obtain ⟨b, hm, hx, _⟩ := hp
        obtain ⟨_, ents, clock, h2, h3⟩ := hr.obs _ _ b hes hm
        rw [hx]
        have hl : ∀ {es : List (Value × V)} {xs : List MapEntry}, RepE fid Γ es xs → xs.length = es.length := by
          intro es
          induction es with
          | nil => intro xs h; simp only [RepE] at h; simp [h]
          | cons a r ih => intro xs h; obtain ⟨k, v⟩ := a; simp only [RepE] at h; obtain ⟨e, es', rfl, _, _, h⟩ := h; simp [ih h]
        have := hl h3
        simp only [Array.length_toList] at this
        simp [run_underlying ht, goInt, getObj, Sem.run, h2, this]
      · cases h
    · cases h
  refine .pure hr (x := .int .i64 n) ?_ (mkLit rfl)
  simp only [execOp, ho, resolve, hcal, ha, hb, invoke, builtin, Sem.run_bind, Sem.run_pure, Result.andThen_ok]
  simp [key]
theorem minI_run : ∀ {ys : List Value} {y r : Value}, minI y ys = some r → noAgg y = true → (ys.foldlM Builtin.min2 y).run P Γ.w = .ok r Γ.w ∧ noAgg r = true
  | [], y, r, h, hy => by
    simp only [minI, Option.some.injEq] at h; subst h; simp [hy]
  | z :: ys, y, r, h, hy => by
    cases y <;> cases z <;> simp only [minI] at h <;> first | (cases h; done) | skip
    have := minI_run (ys := ys) h rfl
    simp only [List.foldlM_cons, Sem.run_bind, Builtin.min2, Sem.run_pure, Result.andThen_ok]
    exact this
theorem lits_sound : ∀ {vs : List V} {ys xs : List Value}, lits vs = some ys → Reps fid Γ vs xs → xs = ys ∧ ∀ y ∈ ys, noAgg y = true
  | [], ys, xs, h, hx => by
    simp only [lits, Option.some.injEq] at h; subst h
    simp only [Reps] at hx; subst hx; simp
  | v :: vs, ys, xs, h, hx => by
    simp only [Reps] at hx
    obtain ⟨x, xs', rfl, h1, h2⟩ := hx
    cases v with
    | dat d =>
      cases d with
      | lit u =>
        simp only [lits] at h
        split at h
        · rename_i us hus
          cases h
          obtain ⟨h3, h4⟩ := lits_sound hus h2
          obtain ⟨h5, h6⟩ := Rep_lit h1
          subst h3; subst h5
          exact ⟨rfl, by simpa [h6] using h4⟩
        · cases h
      | _ => simp [lits] at h
    | _ => simp [lits] at h
theorem c_min (hr : Real fid Γ) {c : Call} {vs : List V} {y r : Value} {ys : List Value} (ho : o.op = .call c) (hcal : c.callee = .builtin .min) (hp : Reps fid Γ vs (c.args.toList.map ρ))
    (hl : lits vs = some (y :: ys)) (h : minI y ys = some r) : Comes P fid Γ ρ o (.dat (.lit r)) Γ.σ := by
  obtain ⟨h1, h2⟩ := lits_sound hl hp
  obtain ⟨h3, h4⟩ := minI_run (P := P) (Γ := Γ) h (h2 y (by simp))
  refine .pure hr (x := r) ?_ (mkLit h4)
  simp only [execOp, ho, resolve, hcal, invoke, builtin, Sem.run_bind, Sem.run_pure, Result.andThen_ok, Builtin.min_, Array.toList_map, h1, h3]
theorem maxI_run : ∀ {ys : List Value} {y r : Value}, maxI y ys = some r → noAgg y = true → (ys.foldlM Builtin.max2 y).run P Γ.w = .ok r Γ.w ∧ noAgg r = true
  | [], y, r, h, hy => by
    simp only [maxI, Option.some.injEq] at h; subst h; simp [hy]
  | z :: ys, y, r, h, hy => by
    cases y <;> cases z <;> simp only [maxI] at h <;> first | (cases h; done) | skip
    have := maxI_run (ys := ys) h rfl
    simp only [List.foldlM_cons, Sem.run_bind, Builtin.max2, Sem.run_pure, Result.andThen_ok]
    exact this
theorem c_max (hr : Real fid Γ) {c : Call} {vs : List V} {y r : Value} {ys : List Value} (ho : o.op = .call c) (hcal : c.callee = .builtin .max) (hp : Reps fid Γ vs (c.args.toList.map ρ))
    (hl : lits vs = some (y :: ys)) (h : maxI y ys = some r) : Comes P fid Γ ρ o (.dat (.lit r)) Γ.σ := by
  obtain ⟨h1, h2⟩ := lits_sound hl hp
  obtain ⟨h3, h4⟩ := maxI_run (P := P) (Γ := Γ) h (h2 y (by simp))
  refine .pure hr (x := r) ?_ (mkLit h4)
  simp only [execOp, ho, resolve, hcal, invoke, builtin, Sem.run_bind, Sem.run_pure, Result.andThen_ok, Builtin.max_, Array.toList_map, h1, h3]
theorem c_mkfn (hr : Real fid Γ) {f : FuncId} {g : Nat} {xs ys : Array Operand} {as bs : List V} (ho : o.op = .makeFunc (.func f) xs ys) (hg : fid g = f) (ha : Reps fid Γ as (xs.toList.map ρ)) (hb : Reps fid Γ bs (ys.toList.map ρ)) :
    Comes P fid Γ ρ o (.fn g as bs) Γ.σ := by
  refine .pure hr (x := .func (.func f) (xs.map ρ) (ys.map ρ)) ?_ ?_
  · simp [execOp, ho, Instr.makeFunc]
  · simp only [Rep]
    exact ⟨_, _, by rw [hg]; simp [← Array.toList_map], ha, hb⟩
theorem Reps_get {vs : List V} {xs : List Value} (h : Reps fid Γ vs xs) {i : Nat} {v : V} (hv : vs[i]? = some v) : ∃ x, xs[i]? = some x ∧ Rep fid Γ v x := by
  induction vs generalizing xs i with
  | nil => simp at hv
  | cons u vs ih =>
    simp only [Reps] at h
    obtain ⟨x, xs', rfl, h1, h2⟩ := h
    cases i with
    | zero => simp at hv; subst hv; exact ⟨x, rfl, h1⟩
    | succ i => exact ih h2 (by simpa using hv)
theorem c_extract (hr : Real fid Γ) {x : Operand} {i : Nat} {vs : List V} {u : V} (ho : o.op = .extract x i) (hp : Rep fid Γ (.tup vs) (ρ x)) (h : vs[i]? = some u) : Comes P fid Γ ρ o u Γ.σ := by
  simp only [Rep] at hp
  obtain ⟨xs, hx, h1⟩ := hp
  obtain ⟨y, h2, h3⟩ := Reps_get h1 h
  refine .pure hr ?_ h3
  simp [execOp, ho, hx, Instr.extract, h2]

/-- An operand that may be left out. -/
def RepO (fid : Fid) (Γ : Ctx) (ρ : Operand → Value) : Option V → Option Operand → Prop
  | none, none => True
  | some v, some y => Rep fid Γ v (ρ y)
  | _, _ => False
theorem bound_sound {x : Option V} {xo : Option Operand} {d most k : Nat} (hx : RepO fid Γ ρ x xo) (h : bound x d most = some k) :
    (xo = none ∧ k = d) ∨ ∃ y kd i, xo = some y ∧ ρ y = .int kd i ∧ 0 ≤ i ∧ i ≤ most ∧ k = i.toNat := by
  cases x with
  | none =>
    cases xo with
    | none => simp only [bound, Option.some.injEq] at h; exact .inl ⟨rfl, h.symm⟩
    | some y => exact hx.elim
  | some v =>
    cases xo with
    | none => exact hx.elim
    | some y =>
      unfold bound at h
      split at h
      · rename_i e; cases e
      · rename_i kd i e
        cases e
        split at h
        · rename_i hi
          cases h
          exact .inr ⟨y, kd, i, rfl, (Rep_lit (fid := fid) (Γ := Γ) hx).1, hi.1, hi.2, rfl⟩
        · cases h
      · cases h
theorem run_bounds {lo hi : Option V} {lx hx : Option Operand} {isSl : Bool} {n cap h l : Nat}
    (h1 : RepO fid Γ ρ lo lx) (h2 : RepO fid Γ ρ hi hx)
    (hn : n ≤ cap) (hh : bound hi n n = some h) (hl : bound lo 0 h = some l) (w : World) :
    (Instr.sliceBounds isSl n cap (lx.map ρ) (hx.map ρ) none).run P w = .ok (l, h, cap) w := by
  rcases bound_sound h2 hh with ⟨rfl, rfl⟩ | ⟨y, kd, i, rfl, e1, e2, e3, rfl⟩ <;> rcases bound_sound h1 hl with ⟨rfl, rfl⟩ | ⟨y', kd', i', rfl, f1, f2, f3, rfl⟩
  · simp [Instr.sliceBounds]
  · simp [Instr.sliceBounds, Instr.sliceBound, f1, asIntOf, f2, f3]
  · simp [Instr.sliceBounds, Instr.sliceBound, e1, asIntOf, e2, show i ≤ (cap : Int) from by omega]
  · simp [Instr.sliceBounds, Instr.sliceBound, e1, f1, asIntOf, e2, f2, show i ≤ (cap : Int) from by omega]
    omega
theorem Row_sub {F : Nat → Nat} {w : World} {b o : Nat} {vs : List Value} (h : Row F w b o vs) (l n : Nat) : Row F w b (o + l) ((vs.drop l).take n) := by
  refine ⟨fun i v hi => ?_, fun hp => ?_, fun v hv => h.2.2 v (List.mem_of_mem_drop (List.mem_of_mem_take hv))⟩
  · rw [List.getElem?_take] at hi
    split at hi
    · rw [List.getElem?_drop] at hi
      have := h.1 _ _ hi
      rw [Nat.add_assoc]; exact this
    · cases hi
  · simp only [List.length_take, List.length_drop] at hp ⊢
    have := h.2.1 (by omega)
    omega
theorem Row_nil {F : Nat → Nat} {w : World} {b o : Nat} : Row F w b o [] := ⟨fun i v h => by simp at h, fun h => absurd h (Nat.lt_irrefl _), fun v h => by simp at h⟩
theorem c_slice (hr : Real fid Γ) {t e : TypeId} {n : Nat} {x : Operand} {p u : V} {lo hi : Option V} {lx hx : Option Operand} (ho : o.op = .slice t x lx hx none) (hp : Rep fid Γ p (ρ x))
    (ht : P.underlying t = some (.slice e)) (hn : sizeT P e = some n)
    (h1 : RepO fid Γ ρ lo lx) (h2 : RepO fid Γ ρ hi hx)
    (h : sliceV n lo hi p = some u) : Comes P fid Γ ρ o u Γ.σ := by
  have fin : ∀ {a len cap l h}, ρ x = .slice a len cap → (Instr.sliceBounds true len cap (lx.map ρ) (hx.map ρ) none).run P Γ.w = .ok (l, h, cap) Γ.w →
      Rep fid Γ u (.slice (if cap = l then a else a.map (·.add (l * n))) (h - l) (cap - l)) → Comes P fid Γ ρ o u Γ.σ := fun ha hb hc => by
    refine .pure hr ?_ hc
    simp only [execOp, ho, Instr.sliceAt, Sem.run_bind, run_underlying ht, Result.andThen_ok, Instr.slice, ha, Option.map_none, hb, run_sizeOf hn, Sem.run_pure]
  have cut : ∀ {cs : List D} {len full' : Nat} {b off cap : Nat} {vs : List Value} {l h : Nat}, RepDs Γ.F Γ.w cs vs → Row Γ.F Γ.w b off vs → cs.length = len * n → len ≤ cap → l ≤ h → h ≤ len →
      Rep fid Γ (.dat (.sl ((cs.drop (l * n)).take ((h - l) * n)) (h - l) false)) (.slice (if cap = l then some ⟨b, off, none⟩ else (some (⟨b, off, none⟩ : Addr)).map (·.add (l * n))) (h - l) (cap - l)) := by
    intro cs len _ b off cap vs l h g1 g2 g3 g4 g5 g6
    simp only [Rep, RepD]
    by_cases hc : cap = l
    · have : h - l = 0 := by omega
      rw [this]
      refine ⟨b, off, cap - l, [], by simp [hc], by omega, by simp, by simp [RepDs], Row_nil⟩
    · refine ⟨b, off + l * n, cap - l, ((vs.drop (l * n)).take ((h - l) * n)), by simp [hc, add_none], by omega, by simp, RepDs_take (RepDs_drop g1 _) _, Row_sub g2 _ _⟩
  unfold sliceV at h
  split at h
  · split at h
    · rename_i hh eh
      split at h
      · rename_i ll el
        cases h
        have hb := run_bounds (P := P) (isSl := true) h1 h2 (Nat.le_refl 0) eh el Γ.w
        refine fin (Rep_lit hp).1 hb ?_
        have : ll = 0 ∧ hh = 0 := by
          rcases bound_sound h2 eh with ⟨_, rfl⟩ | ⟨_, _, i, _, _, i1, i2, rfl⟩ <;> rcases bound_sound h1 el with ⟨_, rfl⟩ | ⟨_, _, i', _, _, i3, i4, rfl⟩ <;> omega
        obtain ⟨rfl, rfl⟩ := this
        simp only [if_true]
        exact mkLit rfl
      · cases h
    · cases h
  · rename_i cs len full
    split at h
    · rename_i hh eh
      split at h
      · rename_i ll el
        split at h
        · rename_i hlen
          cases h
          simp only [Rep, RepD] at hp
          obtain ⟨b, off, cap, vs, hx', g2, g3, g4, g5⟩ := hp
          refine fin hx' (run_bounds (P := P) (isSl := true) h1 h2 g2 eh el Γ.w) (cut (full' := 0) g4 g5 hlen g2 ?_ ?_)
          · rcases bound_sound h1 el with ⟨_, rfl⟩ | ⟨_, _, i', _, _, i3, i4, rfl⟩ <;> omega
          · rcases bound_sound h2 eh with ⟨_, rfl⟩ | ⟨_, _, i', _, _, i3, i4, rfl⟩ <;> omega
        · cases h
      · cases h
    · cases h
  · rename_i cs len sz l0
    split at h
    · rename_i hh eh
      split at h
      · rename_i ll el
        split at h
        · rename_i hlen
          cases h
          simp only [Rep] at hp
          obtain ⟨b, cap, vs, m, hx', g2, g4, g5, _⟩ := hp
          refine fin hx' (run_bounds (P := P) (isSl := true) h1 h2 g2 eh el Γ.w) (cut (full' := 0) g4 g5 hlen g2 ?_ ?_)
          · rcases bound_sound h1 el with ⟨_, rfl⟩ | ⟨_, _, i', _, _, i3, i4, rfl⟩ <;> omega
          · rcases bound_sound h2 eh with ⟨_, rfl⟩ | ⟨_, _, i', _, _, i3, i4, rfl⟩ <;> omega
        · cases h
      · cases h
    · cases h
  · cases h
theorem c_sliceS (hr : Real fid Γ) {t : TypeId} {x : Operand} {p u : V} {lo hi : Option V} {lx hx : Option Operand} (ho : o.op = .slice t x lx hx none) (hp : Rep fid Γ p (ρ x))
    (ht : P.underlying t = some .string)
    (h1 : RepO fid Γ ρ lo lx) (h2 : RepO fid Γ ρ hi hx)
    (h : sliceSV lo hi p = some u) : Comes P fid Γ ρ o u Γ.σ := by
  unfold sliceSV at h
  split at h
  · split at h
    · rename_i hh eh
      split at h
      · rename_i ll el
        cases h
        refine .pure hr ?_ (mkLit rfl)
        have hb := run_bounds (P := P) (isSl := false) h1 h2 (Nat.le_refl _) eh el Γ.w
        simp only [execOp, ho, Instr.sliceAt, Sem.run_bind, run_underlying ht, Result.andThen_ok, Instr.slice, (Rep_lit hp).1, Option.map_none, Sem.run_pure]
        simp [hb]
      · cases h
    · cases h
  · cases h
end
end Go.Pm
