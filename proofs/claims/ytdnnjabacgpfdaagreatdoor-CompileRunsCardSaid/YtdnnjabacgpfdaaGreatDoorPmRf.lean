/- Chapter 15: Do, the reference's walk: simple statements. Chapter 15: Do, the reference's walk: conditions, loops, blocks. Chapter 15: Do, the reference's walk: rows of statements, conditions, blocks. Chapter 15: Do ends, and comes to what the relation says. -/
import Derived.Test.YtdnnjabacgpfdaaGreatDoorPmRc
set_option linter.unusedSimpArgs false
set_option linter.unusedVariables false
section SRf
namespace Go.Pm
open F Gr
set_option maxHeartbeats 2000000
def DoZ (vs : List ByteArray) (st : RS) (v : V) (st' : RS) : Prop := Z prog15z (.call 209 [.ptr 0 0, v, .dat (strD vs)] st.s) = some (.ret (.tup []) st'.s)
section
variable {vs : List ByteArray} {st : RS}
theorem do_off (h : st.ok) (ho : ¬ st.on) (k m : Int) (s : ByteArray) (f : Bool) (ks : Fo) : DoZ vs st (nd k m s f ks) { st with n := st.n - 1 } := by
 obtain ⟨lv, τ, hL⟩ := lg_ex st.l
 have h1 := h.lo
 have h2 := h.hi
 have hw := h.len
 obtain ⟨ws, l, n, c⟩ := st
 simp only at *
 have w := wrap64 (n - 1) (by omega)
 have c49 := cut49 hw lv
 have c50 := cut50 hw lv
 have p49 := put49 hw lv n c
 unfold DoZ
 simp only [RS.s, stS_of hL]
 refine Z_call (pf := F209) rfl rfl ?_
 cases c with
 | true => cases hL <;> simp [F209, nd, w, c49, c50, p49, stL_length hw, List.range_succ]
 | false =>
   have hn : n - 1 < 0 := by
     rcases Int.lt_or_le n 1 with h | h
     · omega
     · exact absurd ⟨rfl, h⟩ ho
   cases hL <;> simp [F209, nd, w, c49, c50, p49, hn, stL_length hw, List.range_succ]
theorem do_stop (h : st.ok) (ho : st.on) (s : ByteArray) (f : Bool) (ks : Fo) : DoZ vs st (nd 6 0 s f ks) { st with n := st.n - 1, c := true } := by
 obtain ⟨lv, τ, hL⟩ := lg_ex st.l
 have h1 := h.lo
 have h2 := h.hi
 have hw := h.len
 obtain ⟨ws, l, n, c⟩ := st
 obtain ⟨hc, hn⟩ := ho
 simp only at *
 subst hc
 have w := wrap64 (n - 1) (by omega)
 have c49 := cut49 hw lv
 have c50 := cut50 hw lv
 have p49 := put49 hw lv n false
 have p50 := put50 hw lv (n - 1) false
 have hn' : ¬ n - 1 < 0 := by omega
 unfold DoZ
 simp only [RS.s, stS_of hL]
 refine Z_call (pf := F209) rfl rfl ?_
 cases hL <;> simp [F209, nd, w, c49, c50, p49, p50, hn', stL_length hw, List.range_succ]
theorem do_assign (h : st.ok) (ho : st.on) (hv : vs.length <= 16) {s : ByteArray} (hs : s ∈ vs) {e : E} (f : Bool) (ef : e.fine) (ei : e.inV vs) (es : e.size <= 2^30) :
   DoZ vs st (nd 1 0 s f (e.fo .nil)) { st with ws := st.ws.set (ixI vs s).toNat (vE vs st.ws e), n := st.n - 1 - cE vs st.ws e } := by
 obtain ⟨lv, τ, hL⟩ := lg_ex st.l
 have h1 := h.lo
 have h2 := h.hi
 have hw := h.len
 have hb := h.bd
 obtain ⟨ws, l, n, c⟩ := st
 obtain ⟨hc, hn⟩ := ho
 simp only at *
 subst hc
 have w := wrap64 (n - 1) (by omega)
 have c49 := cut49 hw lv
 have c50 := cut50 hw lv
 have p49 := put49 hw lv n false
 have hn' : ¬ n - 1 < 0 := by omega
 have zv := val_Z hw hb hv e ef ei l lv τ (n - 1) false hL (by omega) (by omega)
 have zi := upZ (index_Z (vs := vs) (by omega) s)
 have hi := ixI_mem hs
 have m1 : max (ixI vs s) 0 = ixI vs s := by omega
 have m2 : (ixI vs s).tmod 16 = ixI vs s := by rw [Int.tmod_eq_emod_of_nonneg hi.1]; omega
 have m3 : ¬ ixI vs s < 0 := by omega
 have m4 : ixI vs s < 16 := by omega
 have m5 : (ixI vs s).toNat + 1 <= 51 := by omega
 have pw := putW hw lv (n - 1 - cE vs ws e) false (i := (ixI vs s).toNat) (by omega) (vE vs ws e)
 unfold DoZ
 simp only [RS.s, stS_of hL]
 refine Z_call (pf := F209) rfl rfl ?_
 cases hL <;> simp [F209, nd, w, c49, c50, p49, hn', zv, zi, maxI, lits, m1, m2, m3, m4, m5, hi.1, pw, sliceAddr, stL_length hw, runTr, calm2, stillI, still, V.same, List.range_succ]
theorem do_store (h : st.ok) (ho : st.on) (hv : vs.length <= 16) {s : ByteArray} (hs : s ∈ storL) {a b : E} (f : Bool) (fa : a.fine) (fb : b.fine) (ia : a.inV vs) (ib : b.inV vs) (es : a.size + b.size <= 2^30) :
   DoZ vs st (nd 2 0 s f (a.fo (b.fo .nil))) { st with ws := stW st.ws (vE vs st.ws a) (fieldI s) (vE vs st.ws b), l := st.l ++ [1, vE vs st.ws a, fieldI s, vE vs st.ws b], n := st.n - 1 - cE vs st.ws a - cE vs st.ws b } := by
 obtain ⟨lv, τ, hL⟩ := lg_ex st.l
 have h1 := h.lo
 have h2 := h.hi
 have h3 := h.log
 have hw := h.len
 have hb := h.bd
 obtain ⟨ws, l, n, c⟩ := st
 obtain ⟨hc, hn⟩ := ho
 simp only at *
 subst hc
 have w := wrap64 (n - 1) (by omega)
 have c49 := cut49 hw lv
 have c50 := cut50 hw lv
 have p49 := put49 hw lv n false
 have hn' : ¬ n - 1 < 0 := by omega
 have ca := cE_rng vs ws a
 have za := val_Z hw hb hv a fa ia l lv τ (n - 1) false hL (by omega) (by omega)
 have zb := val_Z hw hb hv b fb ib l lv τ (n - 1 - cE vs ws a) false hL (by omega) (by omega)
 have zf := upZ (field_Z s)
 have hf := fieldI_store hs
 have zs := store_Z hw hL (by omega) (n - 1 - cE vs ws a - cE vs ws b) false (vE_bd (vs := vs) hb a fa) (f := fieldI s) (by omega) (x := vE vs ws b)
 unfold DoZ
 have hne : l ++ [1, vE vs ws a, fieldI s, vE vs ws b] ≠ [] := by simp
 rw [show RS.s { ws := stW ws (vE vs ws a) (fieldI s) (vE vs ws b), l := l ++ [1, vE vs ws a, fieldI s, vE vs ws b], n := n - 1 - cE vs ws a - cE vs ws b, c := false } = _ from stS_cons _ hne _ _]
 simp only [RS.s, stS_of hL]
 generalize vE vs ws a = va at *
 generalize vE vs ws b = vb at *
 generalize n - 1 - cE vs ws a - cE vs ws b = n3 at *
 generalize n - 1 - cE vs ws a = n2 at *
 refine Z_call (pf := F209) rfl rfl ?_
 cases hL <;> simp [F209, nd, w, c49, c50, p49, hn', za, zb, zf, zs, sliceAddr, stL_length hw, runTr, calm2, stillI, still, V.same, List.range_succ]
theorem do_effect (h : st.ok) (ho : st.on) (hv : vs.length <= 16) (s : ByteArray) {a b : E} (f : Bool) (fa : a.fine) (fb : b.fine) (ia : a.inV vs) (ib : b.inV vs) (es : a.size + b.size <= 2^30) :
   DoZ vs st (nd 5 0 s f (a.fo (b.fo .nil))) { st with l := st.l ++ [2, vE vs st.ws a, vE vs st.ws b, 0], n := st.n - 1 - cE vs st.ws a - cE vs st.ws b } := by
 obtain ⟨lv, τ, hL⟩ := lg_ex st.l
 have h1 := h.lo
 have h2 := h.hi
 have h3 := h.log
 have hw := h.len
 have hb := h.bd
 obtain ⟨ws, l, n, c⟩ := st
 obtain ⟨hc, hn⟩ := ho
 simp only at *
 subst hc
 have w := wrap64 (n - 1) (by omega)
 have c49 := cut49 hw lv
 have c50 := cut50 hw lv
 have c48 := cut48 hw lv
 have p49 := put49 hw lv n false
 have hn' : ¬ n - 1 < 0 := by omega
 have ca := cE_rng vs ws a
 have za := val_Z hw hb hv a fa ia l lv τ (n - 1) false hL (by omega) (by omega)
 have zb := val_Z hw hb hv b fb ib l lv τ (n - 1 - cE vs ws a) false hL (by omega) (by omega)
 have r0 : roomFor 4 8 = true := by decide
 have r1 : roomFor (l.length + 4) 8 = true := by simp [roomFor]; omega
 unfold DoZ
 have hne : l ++ [2, vE vs ws a, vE vs ws b, 0] ≠ [] := by simp
 rw [show RS.s { ws := ws, l := l ++ [2, vE vs ws a, vE vs ws b, 0], n := n - 1 - cE vs ws a - cE vs ws b, c := false } = _ from stS_cons _ hne _ _]
 simp only [RS.s, stS_of hL]
 have i4 : ints l ++ [V.int 2, V.int (vE vs ws a), V.int (vE vs ws b), V.int 0] = ints (l ++ [2, vE vs ws a, vE vs ws b, 0]) := by simp [ints]
 have p48 := put48 hw lv (n - 1 - cE vs ws a - cE vs ws b) false
 generalize vE vs ws a = va at *
 generalize vE vs ws b = vb at *
 generalize n - 1 - cE vs ws a - cE vs ws b = n3 at *
 generalize n - 1 - cE vs ws a = n2 at *
 refine Z_call (pf := F209) rfl rfl ?_
 cases hL with
 | nil => simp [F209, nd, w, c49, c50, c48, p49, p48, hn', za, zb, r0, sliceAddr, stL_length hw, runTr, calm2, stillI, still, V.same, Value.oneCell', ints, List.range_succ]
 | own => simp [F209, nd, w, c49, c50, c48, p49, p48, hn', za, zb, r1, i4, sliceAddr, stL_length hw, runTr, calm2, stillI, still, V.same, Value.oneCell', List.range_succ]
end
end Go.Pm
end SRf
section SRg
namespace Go.Pm
open F Gr
set_option maxHeartbeats 2000000
inductive Lq (Bx : Ob) : Nat -> Nat -> RS -> S -> Prop
 | a (ws : List Int) (n : Int) (c : Bool) : Lq Bx 1 1 ⟨ws, [], n, c⟩ [.cells (stL ws (.dat (.lit (.slice none 0 0))) n c), Bx]
 | b (ws l : List Int) (h : l ≠ []) (n : Int) (c : Bool) : Lq Bx 1 1 ⟨ws, l, n, c⟩ [.cells (stL ws (.own 2 l.length 1) n c), Bx, .vec (ints l)]
 | c (ws l : List Int) (h : l ≠ []) (n : Int) (c : Bool) : Lq Bx 2 2 ⟨ws, l, n, c⟩ [.cells (stL ws (.own 1 l.length 1) n c), .vec (ints l), Bx]
abbrev boxN (k m : Int) (s : ByteArray) (d : D) : Ob := .cells [.int k, .int m, .str s, .dat d]
section
variable {vs : List ByteArray} {Bx : Ob} {k j : Nat} {st st' : RS} {σ : S}
theorem lq_0 (h : Lq Bx k j st σ) : ∃ lv, σ[0]? = some (.cells (stL st.ws lv st.n st.c)) := by cases h <;> exact ⟨_, rfl⟩
theorem lq_j (h : Lq Bx k j st σ) : σ[j]? = some Bx := by cases h <;> rfl
theorem lq_call (h : Lq Bx k j st σ) {f : Nat} {d d' v : D} (hg : st.l ≠ [] -> st'.l ≠ []) (hz : Z prog15z (.call f [.ptr 0 0, .dat d, .dat d'] st.s) = some (.ret (.dat v) st'.s)) :
   ∃ σ', Lq Bx k j st' σ' /\ doCall (Z prog15z) (.call f) [.ptr 0 0, .dat d, .dat d'] σ = some (.dat v, σ') := by
 obtain ⟨ws', l', n', c'⟩ := st'
 cases h with
 | a ws n c =>
   by_cases hl : l' = []
   · subst hl
     refine ⟨_, .a ws' n' c', ?_⟩
     simp only [RS.s, stS] at hz
     simp [hz]
   · refine ⟨_, .b ws' l' hl n' c', ?_⟩
     simp only [RS.s, stS_cons _ hl] at hz
     simp only [stS] at hz
     simp [hz]
 | b ws l h n c =>
   have hl : l' ≠ [] := hg h
   refine ⟨_, .b ws' l' hl n' c', ?_⟩
   simp only [RS.s, stS_cons _ hl, stS_cons _ h] at hz
   simp [hz]
 | c ws l h n c =>
   have hl : l' ≠ [] := hg h
   refine ⟨_, .c ws' l' hl n' c', ?_⟩
   simp only [RS.s, stS_cons _ hl, stS_cons _ h] at hz
   simp [hz]
theorem lq_callT (h : Lq Bx k j st σ) {f : Nat} {d d' : D} (hg : st.l ≠ [] -> st'.l ≠ []) (hz : Z prog15z (.call f [.ptr 0 0, .dat d, .dat d'] st.s) = some (.ret (.tup []) st'.s)) :
   ∃ σ', Lq Bx k j st' σ' /\ doCall (Z prog15z) (.call f) [.ptr 0 0, .dat d, .dat d'] σ = some (.tup [], σ') := by
 obtain ⟨ws', l', n', c'⟩ := st'
 cases h with
 | a ws n c =>
   by_cases hl : l' = []
   · subst hl
     refine ⟨_, .a ws' n' c', ?_⟩
     simp only [RS.s, stS] at hz
     simp [hz]
   · refine ⟨_, .b ws' l' hl n' c', ?_⟩
     simp only [RS.s, stS_cons _ hl] at hz
     simp only [stS] at hz
     simp [hz]
 | b ws l h n c =>
   have hl : l' ≠ [] := hg h
   refine ⟨_, .b ws' l' hl n' c', ?_⟩
   simp only [RS.s, stS_cons _ hl, stS_cons _ h] at hz
   simp [hz]
 | c ws l h n c =>
   have hl : l' ≠ [] := hg h
   refine ⟨_, .c ws' l' hl n' c', ?_⟩
   simp only [RS.s, stS_cons _ hl, stS_cons _ h] at hz
   simp [hz]
abbrev wFr (vs : List ByteArray) (j : Nat) : Fr := [(0, .ptr 0 0), (2, .dat (strD vs)), (4, .ptr j 0)]
abbrev kkFr (vs : List ByteArray) (j : Nat) (i : Nat) : Fr := [(0, .ptr 0 0), (2, .dat (strD vs)), (4, .ptr j 0), (8, .int i)]
def Ex0 (ex : Fr) : Prop := ex = [] \/ ex = [(28, .int 4), (94, .bool true)]
theorem lq_gcw {K M : Int} {s : ByteArray} {d : D} {ex : Fr} (hx : Ex0 ex) (h : Lq (boxN K M s d) k j st σ) : gcF k (wFr vs j ++ ex) σ = some (wFr vs j ++ ex, σ) := by
 rcases hx with rfl | rfl <;> cases h <;> simp [List.range_succ]
theorem lq_gck {K M : Int} {s : ByteArray} {d : D} (h : Lq (boxN K M s d) k j st σ) (i : Nat) : gcF k (kkFr vs j i) σ = some (kkFr vs j i, σ) := by
 cases h <;> simp [List.range_succ]
def LpZ (vs : List ByteArray) (d : D) (st st' : RS) : Prop := ∀ (k j : Nat) (σ : S) (ex : Fr), Ex0 ex -> Lq (boxN 4 0 ⟨#[]⟩ d) k j st σ ->
 ∃ σ', Lq (boxN 4 0 ⟨#[]⟩ d) k j st' σ' /\ Z prog15z (.loop k F209l0 (wFr vs j ++ ex) σ) = some (.out (.exit 1) (wFr vs j ++ [(117, .bool false)]) σ')
theorem lp_off (hw : st.ws.length = 48) (ho : ¬ st.on) (d : D) : LpZ vs d st st := by
 intro k j σ ex hx h
 refine ⟨σ, h, ?_⟩
 obtain ⟨lv, h0⟩ := lq_0 h
 have hj := lq_j h
 have c49 := cut49 hw lv
 have c50 := cut50 hw lv
 rw [Z_loop_eq, lq_gcw hx h]
 by_cases hn : 0 < st.n
 · have hc : st.c = true := by
     cases hc : st.c with
     | true => rfl
     | false => exact absurd ⟨hc, by omega⟩ ho
   rcases hx with rfl | rfl <;> simp [loopStep, run_F209l0, h0, hj, c49, c50, hn, hc, -doCall]
 · rcases hx with rfl | rfl <;> simp [loopStep, run_F209l0, h0, hj, c49, c50, hn, -doCall]
variable {c : E} {f fx : Bool} {x : Ss}
abbrev whD (f fx : Bool) (c : E) (x : Ss) : D := kd f (c.fo (.cons 7 0 ⟨#[]⟩ fx x.fo .nil)).len (c.fo (.cons 7 0 ⟨#[]⟩ fx x.fo .nil)).cells
theorem lp_out (hs : st.ok) (ho : st.on) (hv : vs.length <= 16) (cf : c.fine) (ci : c.inV vs) (cs : c.size <= 2^30) (hz : vE vs st.ws c = 0) : LpZ vs (whD f fx c x) st { st with n := st.n - cE vs st.ws c } := by
 intro k j σ ex hx h
 have h1 := hs.lo
 have h2 := hs.hi
 have hw := hs.len
 obtain ⟨lv, h0⟩ := lq_0 h
 have hj := lq_j h
 obtain ⟨lw, τ, hL⟩ := lg_ex st.l
 have zv := val_Z hw hs.bd hv c cf ci st.l lw τ st.n st.c hL (by omega) (by omega)
 rw [<- stS_of hL, <- stS_of hL] at zv
 obtain ⟨σ', q, e⟩ := lq_call h (st' := { st with n := st.n - cE vs st.ws c }) (fun h => h) zv
 refine ⟨σ', q, ?_⟩
 have c49 := cut49 hw lv
 have c50 := cut50 hw lv
 have hn : 0 < st.n := by have := ho.2; omega
 rw [Z_loop_eq, lq_gcw hx h]
 rcases hx with rfl | rfl <;> simp [loopStep, run_F209l0, h0, hj, c49, c50, hn, ho.1, sliceAddr, whD, e, hz, -doCall]
theorem lp_go (hs : st.ok) (ho : st.on) (hv : vs.length <= 16) (cf : c.fine) (ci : c.inV vs) (cs : c.size <= 2^30) (hz : vE vs st.ws c ≠ 0) {st1 : RS} (hg : st.l ≠ [] -> st1.l ≠ [])
   (hd : DoZ vs { st with n := st.n - cE vs st.ws c } (nd 7 0 ⟨#[]⟩ fx x.fo) st1) (hl : LpZ vs (whD f fx c x) st1 st') : LpZ vs (whD f fx c x) st st' := by
 intro k j σ ex hx h
 have h1 := hs.lo
 have h2 := hs.hi
 have hw := hs.len
 obtain ⟨lv, h0⟩ := lq_0 h
 have hj := lq_j h
 obtain ⟨lw, τ, hL⟩ := lg_ex st.l
 have zv := val_Z hw hs.bd hv c cf ci st.l lw τ st.n st.c hL (by omega) (by omega)
 rw [<- stS_of hL, <- stS_of hL] at zv
 obtain ⟨σ1, q1, e1⟩ := lq_call h (st' := { st with n := st.n - cE vs st.ws c }) (fun h => h) zv
 obtain ⟨σ2, q2, e2⟩ := lq_callT q1 (st' := st1) hg hd
 have hj1 := lq_j q1
 obtain ⟨σ', q, e⟩ := hl k j σ2 [] (.inl rfl) q2
 refine ⟨σ', q, ?_⟩
 have c49 := cut49 hw lv
 have c50 := cut50 hw lv
 have hn : 0 < st.n := by have := ho.2; omega
 rw [<- e, List.append_nil]
 conv => lhs; rw [Z_loop_eq, lq_gcw hx h]
 rcases hx with rfl | rfl <;> simp [loopStep, run_F209l0, h0, hj, hj1, c49, c50, hn, ho.1, sliceAddr, whD, e1, e2, hz, -doCall]
end
end Go.Pm
end SRg
section SRh
namespace Go.Pm
open F Gr
set_option maxHeartbeats 2000000
theorem at_kdN (g : Bool) (N : Nat) (cs : List D) (i : Nat) (h : i < N) : sliceAddr 4 (.dat (kd g N cs)) (i : Int) = some (.dat (.imm cs (i * 4))) := by
 cases N with
 | zero => omega
 | succ N => simp [sliceAddr]; omega
section
variable {vs : List ByteArray} {st st1 st' : RS}
def RowZ (vs : List ByteArray) (st : RS) (x : Fo) (st' : RS) : Prop := ∀ (g : Bool) (y : Fo) (k j : Nat) (σ : S) (i : Nat), Lq (boxN 7 0 ⟨#[]⟩ (kd g y.len y.cells)) k j st σ -> y.cells.drop (i * 4) = x.cells -> y.len = i + x.len -> y.len < 2^40 ->
 ∃ σ', Lq (boxN 7 0 ⟨#[]⟩ (kd g y.len y.cells)) k j st' σ' /\ Z prog15z (.loop k F209l1 (kkFr vs j i) σ) = some (.out (.exit 3) (kkFr vs j y.len ++ [(162, .bool false)]) σ')
theorem row_nil : RowZ vs st .nil st := by
 intro g y k j σ i h hc hl hy
 refine ⟨σ, h, ?_⟩
 have hj := lq_j h
 obtain rfl : i = y.len := by simpa using hl.symm
 rw [Z_loop_eq, lq_gck h]
 simp [loopStep, run_F209l1, hj]
theorem row_cons {kk nn : Int} {s : ByteArray} {f : Bool} {ks r : Fo} (hz : DoZ vs st (nd kk nn s f ks) st1) (hg : st.l ≠ [] -> st1.l ≠ []) (hr : RowZ vs st1 r st') : RowZ vs st (.cons kk nn s f ks r) st' := by
 intro g y k j σ i h hc hl hy
 have hj := lq_j h
 simp only [fo_len_cons] at hl
 have hi : i < y.len := by omega
 have hi' : (i : Int) < y.len := by omega
 have ha := at_kdN g y.len y.cells i hi
 have hc4 := cut4 hc
 have w1 := wrap64 ((i : Int) + 1) (by omega)
 obtain ⟨σ1, q1, e1⟩ := lq_callT h (st' := st1) hg hz
 obtain ⟨σ', q, e⟩ := hr g y k j σ1 (i + 1) q1 (drop_next hc) (by omega) hy
 refine ⟨σ', q, ?_⟩
 rw [<- e]
 conv => lhs; rw [Z_loop_eq, lq_gck h]
 simp [loopStep, run_F209l1, kkFr, hj, hi', ha, hc4, w1, e1, -doCall]
variable {c : E}
theorem do_ift (h : st.ok) (ho : st.on) (hv : vs.length <= 16) {c : E} (f fx : Bool) {x y : Fo} {fy : Bool} (s : ByteArray) (cf : c.fine) (ci : c.inV vs) (es : c.size <= 2^30) (hz : vE vs st.ws c ≠ 0)
   (hd : DoZ vs { st with n := st.n - 1 - cE vs st.ws c } (nd 7 0 ⟨#[]⟩ fx x) st') (hg : st.l ≠ [] -> st'.l ≠ []) :
   DoZ vs st (nd 3 0 s f (c.fo (.cons 7 0 ⟨#[]⟩ fx x (.cons 7 0 ⟨#[]⟩ fy y .nil)))) st' := by
 obtain ⟨lv, τ, hL⟩ := lg_ex st.l
 obtain ⟨lw, τ', hL'⟩ := lg_ex st'.l
 have h1 := h.lo
 have h2 := h.hi
 have hw := h.len
 have hb := h.bd
 obtain ⟨ws, l, n, c'⟩ := st
 obtain ⟨ws', l', n', c1⟩ := st'
 obtain ⟨hc, hn⟩ := ho
 simp only at *
 subst hc
 have w := wrap64 (n - 1) (by omega)
 have c49 := cut49 hw lv
 have c50 := cut50 hw lv
 have p49 := put49 hw lv n false
 have hn' : ¬ n - 1 < 0 := by omega
 have za := val_Z hw hb hv c cf ci l lv τ (n - 1) false hL (by omega) (by omega)
 unfold DoZ at hd ⊢
 simp only [RS.s, stS_of hL, stS_of hL'] at hd ⊢
 refine Z_call (pf := F209) rfl rfl ?_
 cases hL with
 | nil => cases hL' <;> simp [F209, nd, w, c49, c50, p49, hn', za, hz, hd, sliceAddr, stL_length hw, List.range_succ]
 | own _ hne =>
   cases hL' with
   | nil => exact absurd rfl (hg hne)
   | own => simp [F209, nd, w, c49, c50, p49, hn', za, hz, hd, sliceAddr, stL_length hw, List.range_succ]
theorem do_iff (h : st.ok) (ho : st.on) (hv : vs.length <= 16) {c : E} (f fx : Bool) {x y : Fo} {fy : Bool} (s : ByteArray) (cf : c.fine) (ci : c.inV vs) (es : c.size <= 2^30) (hz : vE vs st.ws c = 0)
   (hd : DoZ vs { st with n := st.n - 1 - cE vs st.ws c } (nd 7 0 ⟨#[]⟩ fy y) st') (hg : st.l ≠ [] -> st'.l ≠ []) :
   DoZ vs st (nd 3 0 s f (c.fo (.cons 7 0 ⟨#[]⟩ fx x (.cons 7 0 ⟨#[]⟩ fy y .nil)))) st' := by
 obtain ⟨lv, τ, hL⟩ := lg_ex st.l
 obtain ⟨lw, τ', hL'⟩ := lg_ex st'.l
 have h1 := h.lo
 have h2 := h.hi
 have hw := h.len
 have hb := h.bd
 obtain ⟨ws, l, n, c'⟩ := st
 obtain ⟨ws', l', n', c1⟩ := st'
 obtain ⟨hc, hn⟩ := ho
 simp only at *
 subst hc
 have w := wrap64 (n - 1) (by omega)
 have c49 := cut49 hw lv
 have c50 := cut50 hw lv
 have p49 := put49 hw lv n false
 have hn' : ¬ n - 1 < 0 := by omega
 have za := val_Z hw hb hv c cf ci l lv τ (n - 1) false hL (by omega) (by omega)
 unfold DoZ at hd ⊢
 simp only [RS.s, stS_of hL, stS_of hL'] at hd ⊢
 refine Z_call (pf := F209) rfl rfl ?_
 cases hL with
 | nil => cases hL' <;> simp [F209, nd, w, c49, c50, p49, hn', za, hz, hd, sliceAddr, stL_length hw, List.range_succ]
 | own _ hne =>
   cases hL' with
   | nil => exact absurd rfl (hg hne)
   | own => simp [F209, nd, w, c49, c50, p49, hn', za, hz, hd, sliceAddr, stL_length hw, List.range_succ]
theorem lq_fin {Bx : Ob} (hb : Bx.locs = []) {k j : Nat} {σ : S} (h : Lq Bx k j st' σ) : finishV k [] σ = some (.ret (.tup []) st'.s) := by
 cases h with
 | a ws n c => simp [hb, RS.s, stS, one, List.range_succ]
 | b ws l h n c => simp [hb, RS.s, stS_cons _ h, one, List.range_succ]
 | c ws l h n c => simp [hb, RS.s, stS_cons _ h, one, List.range_succ]
theorem do_whl (h : st.ok) (ho : st.on) {f fx : Bool} {x : Ss} (hz : LpZ vs (whD f fx c x) { st with n := st.n - 1 } st') :
   DoZ vs st (nd 4 0 ⟨#[]⟩ f (c.fo (.cons 7 0 ⟨#[]⟩ fx x.fo .nil))) st' := by
 have hb : (boxN 4 0 ⟨#[]⟩ (whD f fx c x)).locs = [] := by simp
 have h1 := h.lo
 have h2 := h.hi
 have hw := h.len
 obtain ⟨ws, l, n, c'⟩ := st
 obtain ⟨hc, hn⟩ := ho
 simp only at *
 subst hc
 have w := wrap64 (n - 1) (by omega)
 have hn' : ¬ n - 1 < 0 := by omega
 unfold DoZ
 refine Z_call (pf := F209) rfl rfl ?_
 by_cases hl : l = []
 · subst hl
   obtain ⟨σ', q, e⟩ := hz 1 1 _ _ (.inr rfl) (.a ws (n - 1) false)
   have c49 := cut49 hw (.dat (.lit (.slice none 0 0)))
   have c50 := cut50 hw (.dat (.lit (.slice none 0 0)))
   have p49 := put49 hw (.dat (.lit (.slice none 0 0))) n false
   have fin := lq_fin hb q
   simp only [wFr, List.cons_append, List.nil_append, boxN, whD, cells_fo, len_fo, fo_len_cons, fo_len_nil, fo_cells_cons, fo_cells_nil, kd_s, Nat.zero_add, Nat.reduceAdd] at e
   simp [F209, nd, RS.s, stS, w, c49, c50, p49, hn', stL_length hw, e, fin, -finishV]
 · obtain ⟨σ', q, e⟩ := hz 2 2 _ _ (.inr rfl) (.c ws l hl (n - 1) false)
   have c49 := cut49 hw (.own 1 l.length 1)
   have c50 := cut50 hw (.own 1 l.length 1)
   have p49 := put49 hw (.own 1 l.length 1) n false
   have fin := lq_fin hb q
   simp only [wFr, List.cons_append, List.nil_append, boxN, whD, cells_fo, len_fo, fo_len_cons, fo_len_nil, fo_cells_cons, fo_cells_nil, kd_s, Nat.zero_add, Nat.reduceAdd] at e
   simp [F209, nd, RS.s, stS_cons _ hl, w, c49, c50, p49, hn', stL_length hw, e, fin, -finishV]
theorem do_block (h : st.ok) (ho : st.on) {f : Bool} {x : Fo} (hl : x.len < 2^40) (hz : RowZ vs { st with n := st.n - 1 } x st') : DoZ vs st (nd 7 0 ⟨#[]⟩ f x) st' := by
 have hb : (boxN 7 0 ⟨#[]⟩ (kd f x.len x.cells)).locs = [] := by simp
 have h1 := h.lo
 have h2 := h.hi
 have hw := h.len
 obtain ⟨ws, l, n, c'⟩ := st
 obtain ⟨hc, hn⟩ := ho
 simp only at *
 subst hc
 have w := wrap64 (n - 1) (by omega)
 have hn' : ¬ n - 1 < 0 := by omega
 unfold DoZ
 refine Z_call (pf := F209) rfl rfl ?_
 by_cases hl' : l = []
 · subst hl'
   obtain ⟨σ', q, e⟩ := hz f x 1 1 _ 0 (.a ws (n - 1) false) (by simp) (by omega) hl
   have c49 := cut49 hw (.dat (.lit (.slice none 0 0)))
   have c50 := cut50 hw (.dat (.lit (.slice none 0 0)))
   have p49 := put49 hw (.dat (.lit (.slice none 0 0))) n false
   have fin := lq_fin hb q
   simp only [kkFr, List.cons_append, List.nil_append, boxN, show ((0 : Nat) : Int) = 0 from rfl] at e
   simp [F209, nd, RS.s, stS, w, c49, c50, p49, hn', stL_length hw, e, fin, -finishV]
 · obtain ⟨σ', q, e⟩ := hz f x 2 2 _ 0 (.c ws l hl' (n - 1) false) (by simp) (by omega) hl
   have c49 := cut49 hw (.own 1 l.length 1)
   have c50 := cut50 hw (.own 1 l.length 1)
   have p49 := put49 hw (.own 1 l.length 1) n false
   have fin := lq_fin hb q
   simp only [kkFr, List.cons_append, List.nil_append, boxN, show ((0 : Nat) : Int) = 0 from rfl] at e
   simp [F209, nd, RS.s, stS_cons _ hl', w, c49, c50, p49, hn', stL_length hw, e, fin, -finishV]
end
end Go.Pm
end SRh
section SRi
namespace Go.Pm
open F Gr
set_option maxHeartbeats 1000000
def RowEx (vs : List ByteArray) (N : Int) (x : Ss) : Prop := ∀ st : RS, st.ok -> st.n <= N -> x.fo.size - min st.n 0 <= 2^35 -> ∃ st', Dx vs .row st x st' /\ st.to st' x.fo.size /\ RowZ vs st x.fo st'
def LpEx (vs : List ByteArray) (N : Int) (f fx : Bool) (c : E) (x r : Ss) : Prop := ∀ st : RS, st.ok -> st.n <= N ->
 ∃ st', Dx vs .lp st (.cond true f c (.block fx x .nil) r) st' /\ st.to st' (c.size + x.fo.size + 1) /\ LpZ vs (whD f fx c x) st st'
theorem to_refl {st : RS} (h : st.ok) (k : Nat) : st.to st k where
 ok := h.len
 bd := h.bd
 lo := by omega
 hi := by omega
 log := by omega
 grow := fun h => h
theorem to_less {st : RS} (h : st.ok) {m : Int} {k : Nat} (h0 : m <= st.n) (h1 : min st.n 0 - k <= m) : st.to { st with n := m } k where
 ok := h.len
 bd := h.bd
 lo := h1
 hi := h0
 log := by simp only; omega
 grow := fun h => h
section
variable {vs : List ByteArray} {N : Int}
theorem blk_ex {st : RS} {x : Ss} (hx : RowEx vs N x) (h : st.ok) (hn : st.n <= N) (hb : x.fo.size + 1 - min st.n 0 <= 2^35) (f : Bool) (r : Ss) :
   ∃ st', Dx vs .one st (.block f x r) st' /\ st.to st' (x.fo.size + 1) /\ DoZ vs st (nd 7 0 ⟨#[]⟩ f x.fo) st' := by
 by_cases ho : st.on
 · have hn1 := ho.2
   have t0 := to_less h (m := st.n - 1) (k := 1) (by omega) (by omega)
   obtain ⟨st', d, t, z⟩ := hx _ (t0.next h (by omega)) (by simp only; omega) (by simp only; omega)
   refine ⟨st', .block ho d, t0.trans t (by omega), do_block h ho (by have := fo_len_size x.fo; omega) z⟩
 · exact ⟨_, .off ho, to_less h (by omega) (by omega), do_off h ho ..⟩
theorem row_step {st st1 : RS} {x : Ss} {kk nn : Int} {s : ByteArray} {f : Bool} {ks : Fo} {j : Nat} (hx : x ≠ .nil) (hfo : x.fo = .cons kk nn s f ks x.tl.fo) (d : Dx vs .one st x st1) (t : st.to st1 j) (z : DoZ vs st (nd kk nn s f ks) st1) (ih : RowEx vs N x.tl)
   (h : st.ok) (hn : st.n <= N) (hj : j + x.tl.fo.size <= x.fo.size) (hb : x.fo.size - min st.n 0 <= 2^35) : ∃ st', Dx vs .row st x st' /\ st.to st' x.fo.size /\ RowZ vs st x.fo st' := by
 have hlo := t.lo
 have hhi := t.hi
 obtain ⟨st', d', t', z'⟩ := ih st1 (t.next h (by omega)) (by omega) (by omega)
 refine ⟨st', .cons hx d d', t.trans t' hj, ?_⟩
 rw [hfo]
 exact row_cons z t.grow z'
theorem row_off {st : RS} {x : Ss} {kk nn : Int} {s : ByteArray} {f : Bool} {ks : Fo} (hx : x ≠ .nil) (hfo : x.fo = .cons kk nn s f ks x.tl.fo) (ho : ¬ st.on) (ih : RowEx vs N x.tl)
   (h : st.ok) (hn : st.n <= N) (hb : x.fo.size - min st.n 0 <= 2^35) : ∃ st', Dx vs .row st x st' /\ st.to st' x.fo.size /\ RowZ vs st x.fo st' :=
 row_step hx hfo (.off ho) (to_less (k := 1) h (by omega) (by omega)) (do_off h ho ..) ih h hn (by rw [hfo]; simp only [fo_size_cons]; omega) hb
theorem row_of_lp (hv : vs.length <= 16) (hlp : ∀ f fx c x r, E.fine c -> c.inV vs -> c.size <= 2^29 -> Ss.fine x -> x.inV vs -> x.fo.size <= 2^29 -> LpEx vs (N - 1) f fx c x r) (x : Ss) (hf : x.fine) (hi : x.inV vs) (hs : x.fo.size <= 2^29) : RowEx vs N x := by
 fun_induction Ss.fine x with
 | case1 => exact fun st h _ _ => ⟨st, .nil, to_refl h _, row_nil⟩
 | case2 f s e r ih =>
   simp only [Ss.fo, fo_size_cons, fo_size, fo_size_nil] at hs
   have ih := ih hf.2 hi.2 (by omega)
   intro st h hn hb
   by_cases ho : st.on
   · have hn1 := ho.2
     have hc := cE_rng vs st.ws e
     refine row_step (j := e.size + 1) (by simp) rfl (.assign ho) ⟨by simp [h.len], set_bd h.bd (vE_bd h.bd e hf.1.2.1) _, by simp only; omega, by simp only; omega, by simp only; omega, fun h => h⟩
       (do_assign h ho hv hi.1.1 f hf.1.2.1 hi.1.2 (by omega)) ih h hn (by simp only [Ss.fo, Ss.tl, fo_size_cons, fo_size, fo_size_nil]; omega) hb
   · exact row_off (by simp) rfl ho ih h hn hb
 | case3 f s a b r ih =>
   simp only [Ss.fo, fo_size_cons, fo_size, fo_size_nil] at hs
   have ih := ih hf.2 hi.2 (by omega)
   intro st h hn hb
   by_cases ho : st.on
   · have hn1 := ho.2
     have hc := cE_rng vs st.ws a
     have hc' := cE_rng vs st.ws b
     refine row_step (j := a.size + b.size + 1) (by simp) rfl (.store ho) ⟨by simp [stW_length, h.len], stW_bd h.bd (vE_bd h.bd b hf.1.2.2.2.1), by simp only; omega, by simp only; omega, by simp; omega, fun _ => by simp⟩
       (do_store h ho hv hf.1.1 f hf.1.2.1 hf.1.2.2.2.1 hi.1.1 hi.1.2 (by omega)) ih h hn (by simp only [Ss.fo, Ss.tl, fo_size_cons, fo_size, fo_size_nil]; omega) hb
   · exact row_off (by simp) rfl ho ih h hn hb
 | case4 f a b r ih =>
   simp only [Ss.fo, fo_size_cons, fo_size, fo_size_nil] at hs
   have ih := ih hf.2 hi.2 (by omega)
   intro st h hn hb
   by_cases ho : st.on
   · have hn1 := ho.2
     have hc := cE_rng vs st.ws a
     have hc' := cE_rng vs st.ws b
     refine row_step (j := a.size + b.size + 1) (by simp) rfl (.effect ho) ⟨h.len, h.bd, by simp only; omega, by simp only; omega, by simp; omega, fun _ => by simp⟩
       (do_effect h ho hv _ f hf.1.1 hf.1.2.2.1 hi.1.1 hi.1.2 (by omega)) ih h hn (by simp only [Ss.fo, Ss.tl, fo_size_cons, fo_size, fo_size_nil]; omega) hb
   · exact row_off (by simp) rfl ho ih h hn hb
 | case5 r ih =>
   simp only [Ss.fo, fo_size_cons, fo_size, fo_size_nil] at hs
   have ih := ih hf hi (by omega)
   intro st h hn hb
   by_cases ho : st.on
   · have hn1 := ho.2
     refine row_step (j := 1) (by simp) rfl (.stop ho) ⟨h.len, h.bd, by simp only; omega, by simp only; omega, by simp only; omega, fun h => h⟩
       (do_stop h ho ..) ih h hn (by simp only [Ss.fo, Ss.tl, fo_size_cons, fo_size, fo_size_nil]; omega) hb
   · exact row_off (by simp) rfl ho ih h hn hb
 | case6 f c fx x fy y r ihx ihy ih =>
   simp only [Ss.fo, fo_size_cons, fo_size, fo_size_nil] at hs
   have ihx := ihx hf.2.1 hi.2.1.1 (by omega)
   have ihy := ihy hf.2.2.1 hi.2.1.2.1 (by omega)
   have ih := ih hf.2.2.2 hi.2.2 (by omega)
   intro st h hn hb
   simp only [Ss.fo, fo_size_cons, fo_size, fo_size_nil] at hb
   by_cases ho : st.on
   · have hn1 := ho.2
     have hc := cE_rng vs st.ws c
     have t0 := to_less h (m := st.n - 1 - cE vs st.ws c) (k := c.size + 1) (by omega) (by omega)
     have ok0 := t0.next h (by omega)
     by_cases hz : vE vs st.ws c = 0
     · obtain ⟨st1, d, t, z⟩ := blk_ex ihy ok0 (by simp only; omega) (by simp only; omega) fy .nil
       exact row_step (j := c.size + 1 + (y.fo.size + 1)) (by simp) rfl (.iff ho hz d) (t0.trans t (by omega)) (do_iff h ho hv f fx _ hf.1.1 hi.1 (by omega) hz z (fun g => t.grow g)) ih h hn
         (by simp only [Ss.fo, Ss.tl, fo_size_cons, fo_size, fo_size_nil]; omega) (by simp only [Ss.fo, Ss.tl, fo_size_cons, fo_size, fo_size_nil]; omega)
     · obtain ⟨st1, d, t, z⟩ := blk_ex ihx ok0 (by simp only; omega) (by simp only; omega) fx (.block fy y .nil)
       exact row_step (j := c.size + 1 + (x.fo.size + 1)) (by simp) rfl (.ift ho hz d) (t0.trans t (by omega)) (do_ift h ho hv f fx _ hf.1.1 hi.1 (by omega) hz z (fun g => t.grow g)) ih h hn
         (by simp only [Ss.fo, Ss.tl, fo_size_cons, fo_size, fo_size_nil]; omega) (by simp only [Ss.fo, Ss.tl, fo_size_cons, fo_size, fo_size_nil]; omega)
   · exact row_off (by simp) rfl ho ih h hn (by simp only [Ss.fo, Ss.tl, fo_size_cons, fo_size, fo_size_nil]; omega)
 | case7 f c fx x r ihx ih =>
   simp only [Ss.fo, fo_size_cons, fo_size, fo_size_nil] at hs
   have ih := ih hf.2.2 hi.2.2 (by omega)
   intro st h hn hb
   simp only [Ss.fo, fo_size_cons, fo_size, fo_size_nil] at hb
   by_cases ho : st.on
   · have hn1 := ho.2
     have t0 := to_less h (m := st.n - 1) (k := 1) (by omega) (by omega)
     obtain ⟨st1, d, t, z⟩ := hlp f fx c x r hf.1.1 hi.1 (by omega) hf.2.1 hi.2.1.1 (by omega) _ (t0.next h (by omega)) (by simp only; omega)
     exact row_step (j := 1 + (c.size + x.fo.size + 1)) (by simp) rfl (.whl ho d) (t0.trans t (by omega)) (do_whl h ho z) ih h hn
         (by simp only [Ss.fo, Ss.tl, fo_size_cons, fo_size, fo_size_nil]; omega) (by simp only [Ss.fo, Ss.tl, fo_size_cons, fo_size, fo_size_nil]; omega)
   · exact row_off (by simp) rfl ho ih h hn (by simp only [Ss.fo, Ss.tl, fo_size_cons, fo_size, fo_size_nil]; omega)
 | case8 => exact hf.elim
theorem lp_of_row {x : Ss} (hv : vs.length <= 16) {N : Nat} (hx : RowEx vs N x) {c : E} (cf : c.fine) (ci : c.inV vs) (cs : c.size <= 2^29) (xs : x.fo.size <= 2^29) (f fx : Bool) (r : Ss) : ∀ m : Nat, m <= N -> LpEx vs m f fx c x r
 | 0, _ => fun st h hn => by
   have ho : ¬ st.on := fun ho => by have := ho.2; omega
   exact ⟨st, .lpe ho, to_refl h _, lp_off h.len ho _⟩
 | m + 1, hm => fun st h hn => by
   by_cases ho : st.on
   · have hn1 := ho.2
     have hc := cE_rng vs st.ws c
     have t0 := to_less h (m := st.n - cE vs st.ws c) (k := c.size) (by omega) (by omega)
     by_cases hz : vE vs st.ws c = 0
     · exact ⟨_, .lpo ho hz, to_less h (by omega) (by omega), lp_out h ho hv cf ci (by omega) hz⟩
     · obtain ⟨st1, d, t, z⟩ := blk_ex hx (t0.next h (by omega)) (by simp only; omega) (by simp only; omega) fx .nil
       have t1 := t0.trans t (Nat.le_refl _)
       have h1 := t1.lo
       have h2 := t.hi
       simp only at h2
       obtain ⟨st', d', t', z'⟩ := lp_of_row hv hx cf ci cs xs f fx r m (by omega) st1 (t1.next h (by omega)) (by omega)
       refine ⟨st', .lpg ho hz d d', ?_, lp_go h ho hv cf ci (by omega) hz (fun g => t1.grow g) z z'⟩
       have u := t1.trans t' (Nat.le_refl _)
       refine ⟨u.ok, u.bd, ?_, u.hi, u.log, u.grow⟩
       by_cases ho1 : st1.on
       · have := ho1.2
         have := t'.lo
         omega
       · cases d' with
         | lpe => omega
         | lpo h => exact absurd h ho1
         | lpg h => exact absurd h ho1
   · exact ⟨st, .lpe ho, to_refl h _, lp_off h.len ho _⟩
theorem row_ex (hv : vs.length <= 16) : ∀ (N : Nat) (x : Ss), x.fine -> x.inV vs -> x.fo.size <= 2^29 -> RowEx vs N x
 | 0, x, hf, hi, hs => row_of_lp hv (fun f fx c x r _ _ _ _ _ _ => fun st h hn => by
     have ho : ¬ st.on := fun ho => by have := ho.2; omega
     exact ⟨st, .lpe ho, to_refl h _, lp_off h.len ho _⟩) x hf hi hs
 | N + 1, x, hf, hi, hs => row_of_lp hv (fun f fx c x r cf ci cs xf xi xs => by
     have : ((N + 1 : Nat) : Int) - 1 = N := by omega
     rw [this]
     exact lp_of_row hv (row_ex hv N x xf xi xs) cf ci cs xs f fx r N (Nat.le_refl _)) x hf hi hs
end
end Go.Pm
end SRi
