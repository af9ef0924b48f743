/- Chapter 15: Execute, the reference's walk: rounds. -/
import Derived.Test.YtdnnjabacgpfdaaGreatDoorPmRc
import Derived.Test.YtdnnjabacgpfdaaGreatDoorPmRj
import Derived.Test.YtdnnjabacgpfdaaGreatDoorPmN4
set_option linter.unusedSimpArgs false
set_option linter.unusedVariables false
section SRl
namespace Go.Pm
open F Gr
set_option maxHeartbeats 2000000
def ra : List Int -> Int
 | [a, _] => a
 | _ => 0
def rb : List Int -> Int
 | [_, b] => b
 | [b] => b
 | _ => 0
section
variable {ws l : List Int} {lv : V} {τ : S}
theorem around_id {n m : Int} (h0 : 0 <= n) (h1 : n < m) : around n m = n := by
 unfold around
 rw [if_neg (by omega), Int.tmod_eq_emod_of_nonneg h0, Int.emod_eq_of_lt h0 h1]
theorem push_Z (hw : ws.length = 48) (hL : Lg l lv τ) (m : Int) {op n v : Int} {r : List Int} (hP : Pv ws op n r v) (hr : ∀ x ∈ r, Bd x) :
   Z prog15z (.call 214 [.ptr 0 0, .dat (.agg [.lit (.int .i64 op), .lit (.int .i64 n)]), .int (ra r), .int (rb r)] (.cells (stL ws lv m false) :: τ)) = some (.ret (.int v) (.cells (stL ws lv m false) :: τ)) := by
 refine Z_call (pf := F214) rfl rfl ?_
 cases hP with
 | lit _ => cases hL <;> simp [F214, List.range_succ]
 | var h0 h1 =>
   have z := upZ (around15 (n := n) (m := 16) (by omega) (by omega))
   rw [around_id h0 h1] at z
   have c := cutW hw lv m false (i := n.toNat) (by omega)
   cases hL <;> simp [F214, z, h0, h1, c, List.range_succ, calm, alone]
 | self => cases hL <;> simp [F214, List.range_succ]
 | other => cases hL <;> simp [F214, List.range_succ]
 | tick => cases hL <;> simp [F214, List.range_succ]
 | @field n b h0 h1 =>
   have z := upZ (around15 (n := n) (m := 8) (by omega) (by omega))
   rw [around_id h0 (by omega)] at z
   have zl := load_Z hw hL m false (hr b (by simp)) (f := n) (by omega)
   cases hL <;> simp [F214, z, zl, ra, rb, List.range_succ, calm, alone]
 | @neg n b =>
   have hb := hr b (by simp)
   have w := wrap64 (-b) (by omega)
   cases hL <;> simp [F214, w, ra, rb, List.range_succ]
 | @not n b =>
   have t := truth_Z
   cases hL <;> simp [F214, t, ra, rb, List.range_succ]
 | @ar op n a b ho =>
   have z := calc_Z op (hr a (by simp)) (hr b (by simp))
   have h1 : op ≠ 1 /\ op ≠ 2 /\ op ≠ 4 /\ op ≠ 6 /\ op ≠ 7 /\ op ≠ 8 /\ op ≠ 13 /\ op ≠ 17 := by omega
   obtain ⟨g1, g2, g4, g6, g7, g8, g13, g17⟩ := h1
   cases hL <;> simp [F214, z, ra, rb, g1, g2, g4, g6, g7, g8, g13, g17, List.range_succ]
end
theorem pv_pop {ws : List Int} {op n v : Int} {r : List Int} (h : Pv ws op n r v) : popR op = r.length /\ pushI op = 1 := by
 cases h with
 | ar ho => rcases ho with rfl | rfl | rfl | rfl | rfl | rfl | rfl <;> exact ⟨rfl, rfl⟩
 | _ => exact ⟨rfl, rfl⟩
abbrev eFr (v : V) (pc : Nat) : Fr := [(0, .ptr 0 0), (4, .ptr 1 0), (7, v), (8, .int pc)]
abbrev eFrx (v : V) (pc : Nat) : Fr := [(0, .ptr 0 0), (4, .ptr 1 0), (7, v), (8, .int pc), (9, .ptr 3 0), (115, .bool false)]
abbrev nilV0 : V := .dat (.lit (.slice none 0 0))
inductive Es (bx : Ob) : MS -> Int -> Fr -> S -> Prop
 | nn (ws : List Int) (pc : Nat) (n : Int) : Es bx ⟨ws, [], [], pc⟩ n (eFr (.dat (.lit (.slice none 0 0))) pc) [.cells (stL ws (.dat (.lit (.slice none 0 0))) n false), bx]
 | no (ws l : List Int) (h : l ≠ []) (pc : Nat) (n : Int) : Es bx ⟨ws, l, [], pc⟩ n (eFr (.dat (.lit (.slice none 0 0))) pc) [.cells (stL ws (.own 2 l.length 1) n false), bx, .vec (ints l)]
 | on (ws q : List Int) (pc : Nat) (n : Int) : Es bx ⟨ws, [], q, pc⟩ n (eFr (.own 2 q.length 1) pc) [.cells (stL ws (.dat (.lit (.slice none 0 0))) n false), bx, .vec (ints q)]
 | oo (ws l q : List Int) (h : l ≠ []) (pc : Nat) (n : Int) : Es bx ⟨ws, l, q, pc⟩ n (eFr (.own 2 q.length 1) pc) [.cells (stL ws (.own 3 l.length 1) n false), bx, .vec (ints q), .vec (ints l)]
 | onx (ws q : List Int) (pc : Nat) (n k0 : Int) : Es bx ⟨ws, [], q, pc⟩ n (eFrx (.own 2 q.length 1) pc) [.cells (stL ws (.dat (.lit (.slice none 0 0))) n false), bx, .vec (ints q), .cells [.int 19, .int k0]]
 | oox (ws l q : List Int) (h : l ≠ []) (pc : Nat) (n k0 : Int) : Es bx ⟨ws, l, q, pc⟩ n (eFrx (.own 2 q.length 1) pc) [.cells (stL ws (.own 4 l.length 1) n false), bx, .vec (ints q), .cells [.int 19, .int k0], .vec (ints l)]
section
variable {d : D} {c : Cd} {e0 e1 e2 : Int} {ws l q : List Int} {pc : Nat} {n op k v a b k0 : Int} {m : Nat}
abbrev pbx (d : D) (e0 e1 e2 : Int) : Ob := .cells [.dat d, .int e0, .int e1, .int e2]
structure InI (d : D) (c : Cd) (pc : Nat) (op k : Int) : Prop where
 lt : pc < c.length
 at_ : sliceAddr 2 (.dat d) (pc : Int) = some (.dat (.imm (icC c) (pc * 2)))
 cut : cutCells (icC c) (pc * 2) 2 = some [.lit (.int .i64 op), .lit (.int .i64 k)]
theorem inI (hd : IsCode d c) (h : c[pc]? = some (op, k)) : InI d c pc op k := by
 obtain ⟨hl, he⟩ := List.getElem?_eq_some_iff.1 h
 refine ⟨hl, ?_, ?_⟩
 · have := hd.at_ pc (by omega) (by omega)
   simpa using this
 · rw [cut2_icC c pc hl]
   simp [opA, nA, List.getD_eq_getElem?_getD, h]
theorem last1 (q : List Int) (b : Int) : cutCells (ints (q ++ [b])) q.length 1 = some [V.int b] := by
 rw [cut1_ints' _ _ (by simp)]; simp [getN, List.getD_eq_getElem?_getD]
theorem last2 (q : List Int) (a b : Int) : cutCells (ints (q ++ [a, b])) (q.length + 1) 1 = some [V.int b] := by
 rw [cut1_ints' _ _ (by simp)]; simp [getN, List.getD_eq_getElem?_getD]
theorem last2' (q : List Int) (a b : Int) : cutCells (ints (q ++ [a, b])) q.length 1 = some [V.int a] := by
 rw [cut1_ints' _ _ (by simp)]; simp [getN, List.getD_eq_getElem?_getD]
theorem takeq (q r : List Int) : (ints (q ++ r)).take q.length = ints q := by rw [take_ints]; simp
theorem own_last (q : List Int) : sliceAddr 1 (.own 2 (q.length + 1) 1) (q.length : Int) = some (.eptr 2 (q.length + 1) q.length) := own_at 2 _ _ (by omega)
theorem own_last2 (q : List Int) : sliceAddr 1 (.own 2 (q.length + 2) 1) ((q.length : Int) + 1) = some (.eptr 2 (q.length + 2) (q.length + 1)) := by
 have := own_at 2 (q.length + 2) (q.length + 1) (by omega)
 simpa using this
theorem own_last2' (q : List Int) : sliceAddr 1 (.own 2 (q.length + 2) 1) (q.length : Int) = some (.eptr 2 (q.length + 2) q.length) := own_at 2 _ _ (by omega)
theorem es_inv {bx : Ob} {m : MS} {n : Int} {f : Fr} {σ : S} (h : Es bx m n f σ) :
   (m.q = [] /\ ((m.l = [] /\ f = eFr nilV0 m.pc /\ σ = [.cells (stL m.ws nilV0 n false), bx]) \/
     (m.l ≠ [] /\ f = eFr nilV0 m.pc /\ σ = [.cells (stL m.ws (.own 2 m.l.length 1) n false), bx, .vec (ints m.l)]))) \/
   (m.l = [] /\ f = eFr (.own 2 m.q.length 1) m.pc /\ σ = [.cells (stL m.ws nilV0 n false), bx, .vec (ints m.q)]) \/
   (m.l ≠ [] /\ f = eFr (.own 2 m.q.length 1) m.pc /\ σ = [.cells (stL m.ws (.own 3 m.l.length 1) n false), bx, .vec (ints m.q), .vec (ints m.l)]) \/
   (∃ k0, m.l = [] /\ f = eFrx (.own 2 m.q.length 1) m.pc /\ σ = [.cells (stL m.ws nilV0 n false), bx, .vec (ints m.q), .cells [.int 19, .int k0]]) \/
   (∃ k0, m.l ≠ [] /\ f = eFrx (.own 2 m.q.length 1) m.pc /\ σ = [.cells (stL m.ws (.own 4 m.l.length 1) n false), bx, .vec (ints m.q), .cells [.int 19, .int k0], .vec (ints m.l)]) := by
 cases h with
 | nn => exact .inl ⟨rfl, .inl ⟨rfl, rfl, rfl⟩⟩
 | no ws l h => exact .inl ⟨rfl, .inr ⟨h, rfl, rfl⟩⟩
 | on => exact .inr (.inl ⟨rfl, rfl, rfl⟩)
 | oo ws l q h => exact .inr (.inr (.inl ⟨h, rfl, rfl⟩))
 | onx => exact .inr (.inr (.inr (.inl ⟨_, rfl, rfl, rfl⟩)))
 | oox ws l q h => exact .inr (.inr (.inr (.inr ⟨_, h, rfl, rfl⟩)))
theorem xs_psh0 (hw : ws.length = 48) (hd : IsCode d c) (hcl : c.length < 2^30) (hi : InI d c pc op k) (hn : 0 < n) (hn2 : n <= 2^30) (hll : l.length < 2^30) (hq : q.length < 2^30) (hP : Pv ws op k [] v)
   {f : Fr} {σ : S} (hE : Es (pbx d e0 e1 e2) ⟨ws, l, q, pc⟩ n f σ) :
   ∃ f1 σ1, Es (pbx d e0 e1 e2) ⟨ws, l, q ++ [v], pc + 1⟩ (n - 1) f1 σ1 /\ Z prog15z (.loop 1 F210l0 f σ) = Z prog15z (.loop 1 F210l0 f1 σ1) := by
 have hlt := hi.lt
 have hlt' : ¬ (c.length : Int) <= pc := by omega
 have hneg : ¬ (pc : Int) < 0 := by omega
 have w0 := wrap64 0 (by omega)
 have ql1 : (q.length : Int) <= (q.length : Int) + 1 := by omega
 have ql2 : (q.length : Int) <= (q.length : Int) + 2 := by omega
 have w21 : IntKind.i64.wrap ((q.length : Int) + 2 - 1) = (q.length : Int) + 1 := by rw [wrap64 _ (by omega)]; omega
 have qn0 : ¬ (q.length : Int) < 0 := by omega
 have qn1 : ¬ (q.length : Int) + 1 < 1 := by omega
 have qn2 : ¬ (q.length : Int) + 2 < 2 := by omega
 have hat := hi.at_
 have hct := hi.cut
 have hln := hd.len
 have ho := hd.one
 have hcc := hd.cells
 have w1 := wrap64 (n - 1) (by omega)
 have w2 := wrap64 ((pc : Int) + 1) (by omega)
 have wq := wrap64 (q.length : Int) (by omega)
 have wq1 := wrap64 ((q.length : Int) + 1) (by omega)
 have c48 := cut48 hw
 have c49 := cut49 hw
 have p49 := fun lv => put49 hw lv n false
 have sl := stL_length hw
 have zp := upZ (pops15 op)
 have zu := upZ (push15 op)
 have zv := fun lv τ (hL : Lg l lv τ) => push_Z hw hL (n - 1) hP (by simp)
 simp only [ra, rb] at zv
 have hpp := pv_pop hP
 simp only [List.length_cons, List.length_nil] at hpp
 rw [hpp.1] at zp
 rw [hpp.2] at zu
 have ia : ∀ q, ints q ++ [V.int v] = ints (q ++ [v]) := by simp [ints]
 have i1 : [V.int v] = ints [v] := rfl
 have ib : ints q ++ ints [v] = ints (q ++ [v]) := by simp [ints]
 have r1 : roomFor (q.length + 1) 8 = true := by simp [roomFor]; omega
 have r2 : roomFor 1 8 = true := by decide
 have tq := takeq q []
 rw [List.append_nil] at tq
 rcases es_inv hE with ⟨hq', ⟨hl, rfl, rfl⟩ | ⟨hl, rfl, rfl⟩⟩ | ⟨hl, rfl, rfl⟩ | ⟨hl, rfl, rfl⟩ | ⟨k0, hl, rfl, rfl⟩ | ⟨k0, hl, rfl, rfl⟩
 dsimp only at hl hq'
 subst hq'
 subst hl
 have zv := zv _ _ .nil
 refine ⟨_, _, .on ws ([] ++ [v]) (pc + 1) (n - 1), ?_⟩
 rotate_left
 dsimp only at hl hq'
 subst hq'
 have zv := zv _ _ (.own l hl)
 refine ⟨_, _, .oo ws (l) ([] ++ [v]) hl (pc + 1) (n - 1), ?_⟩
 rotate_left
 dsimp only at hl
 subst hl
 have zv := zv _ _ .nil
 refine ⟨_, _, .on ws (q ++ [v]) (pc + 1) (n - 1), ?_⟩
 rotate_left
 dsimp only at hl
 have zv := zv _ _ (.own l hl)
 refine ⟨_, _, .oo ws (l) (q ++ [v]) hl (pc + 1) (n - 1), ?_⟩
 rotate_left
 dsimp only at hl
 subst hl
 have zv := zv _ _ .nil
 refine ⟨_, _, .on ws (q ++ [v]) (pc + 1) (n - 1), ?_⟩
 rotate_left
 dsimp only at hl
 have zv := zv _ _ (.own l hl)
 refine ⟨_, _, .oo ws (l) (q ++ [v]) hl (pc + 1) (n - 1), ?_⟩
 rotate_left
 all_goals conv => lhs; rw [Z_loop_eq]
 all_goals simp [loopStep, run_F210l0, hn, hneg, ql1, ql2, w21, qn0, qn1, qn2, w0, hlt', hat, hct, hln, ho, hcc, w1, w2, wq, wq1, c48, c49, p49, sl, zp, zu, len_nil, len_own, zv, ia, ib, i1, r1, r2, tq, sliceV, last1, own_last, last2, last2', own_last2, own_last2', bound, calm, alone, Value.oneCell', List.range_succ]
 all_goals exact Z_loop_cong (by simp [ho, hcc, List.range_succ])
theorem xs_psh1 (hw : ws.length = 48) (hd : IsCode d c) (hcl : c.length < 2^30) (hi : InI d c pc op k) (hn : 0 < n) (hn2 : n <= 2^30) (hll : l.length < 2^30) (hq : q.length < 2^30) (hP : Pv ws op k [b] v) (hb : Bd b)
   {f : Fr} {σ : S} (hE : Es (pbx d e0 e1 e2) ⟨ws, l, q ++ [b], pc⟩ n f σ) :
   ∃ f1 σ1, Es (pbx d e0 e1 e2) ⟨ws, l, q ++ [v], pc + 1⟩ (n - 1) f1 σ1 /\ Z prog15z (.loop 1 F210l0 f σ) = Z prog15z (.loop 1 F210l0 f1 σ1) := by
 have hlt := hi.lt
 have hlt' : ¬ (c.length : Int) <= pc := by omega
 have hneg : ¬ (pc : Int) < 0 := by omega
 have w0 := wrap64 0 (by omega)
 have ql1 : (q.length : Int) <= (q.length : Int) + 1 := by omega
 have ql2 : (q.length : Int) <= (q.length : Int) + 2 := by omega
 have w21 : IntKind.i64.wrap ((q.length : Int) + 2 - 1) = (q.length : Int) + 1 := by rw [wrap64 _ (by omega)]; omega
 have qn0 : ¬ (q.length : Int) < 0 := by omega
 have qn1 : ¬ (q.length : Int) + 1 < 1 := by omega
 have qn2 : ¬ (q.length : Int) + 2 < 2 := by omega
 have hat := hi.at_
 have hct := hi.cut
 have hln := hd.len
 have ho := hd.one
 have hcc := hd.cells
 have w1 := wrap64 (n - 1) (by omega)
 have w2 := wrap64 ((pc : Int) + 1) (by omega)
 have wq := wrap64 (q.length : Int) (by omega)
 have wq1 := wrap64 ((q.length : Int) + 1) (by omega)
 have c48 := cut48 hw
 have c49 := cut49 hw
 have p49 := fun lv => put49 hw lv n false
 have sl := stL_length hw
 have zp := upZ (pops15 op)
 have zu := upZ (push15 op)
 have zv := fun lv τ (hL : Lg l lv τ) => push_Z hw hL (n - 1) hP (by simpa using hb)
 simp only [ra, rb] at zv
 have hpp := pv_pop hP
 simp only [List.length_cons, List.length_nil] at hpp
 rw [hpp.1] at zp
 rw [hpp.2] at zu
 have ia : ∀ q, ints q ++ [V.int v] = ints (q ++ [v]) := by simp [ints]
 have i1 : [V.int v] = ints [v] := rfl
 have ib : ints q ++ ints [v] = ints (q ++ [v]) := by simp [ints]
 have r1 : roomFor (q.length + 1) 8 = true := by simp [roomFor]; omega
 have r2 : roomFor 1 8 = true := by decide
 have tq := takeq q [b]
 rcases es_inv hE with ⟨hq', ⟨hl, rfl, rfl⟩ | ⟨hl, rfl, rfl⟩⟩ | ⟨hl, rfl, rfl⟩ | ⟨hl, rfl, rfl⟩ | ⟨k0, hl, rfl, rfl⟩ | ⟨k0, hl, rfl, rfl⟩
 · simp at hq'
 · simp at hq'
 dsimp only at hl
 subst hl
 have zv := zv _ _ .nil
 refine ⟨_, _, .on ws (q ++ [v]) (pc + 1) (n - 1), ?_⟩
 rotate_left
 dsimp only at hl
 have zv := zv _ _ (.own l hl)
 refine ⟨_, _, .oo ws (l) (q ++ [v]) hl (pc + 1) (n - 1), ?_⟩
 rotate_left
 dsimp only at hl
 subst hl
 have zv := zv _ _ .nil
 refine ⟨_, _, .on ws (q ++ [v]) (pc + 1) (n - 1), ?_⟩
 rotate_left
 dsimp only at hl
 have zv := zv _ _ (.own l hl)
 refine ⟨_, _, .oo ws (l) (q ++ [v]) hl (pc + 1) (n - 1), ?_⟩
 rotate_left
 all_goals conv => lhs; rw [Z_loop_eq]
 all_goals simp [loopStep, run_F210l0, hn, hneg, ql1, ql2, w21, qn0, qn1, qn2, w0, hlt', hat, hct, hln, ho, hcc, w1, w2, wq, wq1, c48, c49, p49, sl, zp, zu, len_nil, len_own, zv, ia, r1, tq, sliceV, last1, own_last, last2, last2', own_last2, own_last2', bound, calm, alone, Value.oneCell', List.range_succ]
 all_goals exact Z_loop_cong (by simp [ho, hcc, List.range_succ])
theorem xs_psh2 (hw : ws.length = 48) (hd : IsCode d c) (hcl : c.length < 2^30) (hi : InI d c pc op k) (hn : 0 < n) (hn2 : n <= 2^30) (hll : l.length < 2^30) (hq : q.length < 2^30) (hP : Pv ws op k [a, b] v) (ha : Bd a) (hb : Bd b)
   {f : Fr} {σ : S} (hE : Es (pbx d e0 e1 e2) ⟨ws, l, q ++ [a, b], pc⟩ n f σ) :
   ∃ f1 σ1, Es (pbx d e0 e1 e2) ⟨ws, l, q ++ [v], pc + 1⟩ (n - 1) f1 σ1 /\ Z prog15z (.loop 1 F210l0 f σ) = Z prog15z (.loop 1 F210l0 f1 σ1) := by
 have hlt := hi.lt
 have hlt' : ¬ (c.length : Int) <= pc := by omega
 have hneg : ¬ (pc : Int) < 0 := by omega
 have w0 := wrap64 0 (by omega)
 have ql1 : (q.length : Int) <= (q.length : Int) + 1 := by omega
 have ql2 : (q.length : Int) <= (q.length : Int) + 2 := by omega
 have w21 : IntKind.i64.wrap ((q.length : Int) + 2 - 1) = (q.length : Int) + 1 := by rw [wrap64 _ (by omega)]; omega
 have qn0 : ¬ (q.length : Int) < 0 := by omega
 have qn1 : ¬ (q.length : Int) + 1 < 1 := by omega
 have qn2 : ¬ (q.length : Int) + 2 < 2 := by omega
 have hat := hi.at_
 have hct := hi.cut
 have hln := hd.len
 have ho := hd.one
 have hcc := hd.cells
 have w1 := wrap64 (n - 1) (by omega)
 have w2 := wrap64 ((pc : Int) + 1) (by omega)
 have wq := wrap64 (q.length : Int) (by omega)
 have wq1 := wrap64 ((q.length : Int) + 1) (by omega)
 have c48 := cut48 hw
 have c49 := cut49 hw
 have p49 := fun lv => put49 hw lv n false
 have sl := stL_length hw
 have zp := upZ (pops15 op)
 have zu := upZ (push15 op)
 have zv := fun lv τ (hL : Lg l lv τ) => push_Z hw hL (n - 1) hP (by simp only [List.mem_cons, List.not_mem_nil, or_false]; rintro x (rfl | rfl) <;> assumption)
 simp only [ra, rb] at zv
 have hpp := pv_pop hP
 simp only [List.length_cons, List.length_nil] at hpp
 rw [hpp.1] at zp
 rw [hpp.2] at zu
 have ia : ∀ q, ints q ++ [V.int v] = ints (q ++ [v]) := by simp [ints]
 have i1 : [V.int v] = ints [v] := rfl
 have ib : ints q ++ ints [v] = ints (q ++ [v]) := by simp [ints]
 have r1 : roomFor (q.length + 1) 8 = true := by simp [roomFor]; omega
 have r2 : roomFor 1 8 = true := by decide
 have tq := takeq q [a, b]
 rcases es_inv hE with ⟨hq', ⟨hl, rfl, rfl⟩ | ⟨hl, rfl, rfl⟩⟩ | ⟨hl, rfl, rfl⟩ | ⟨hl, rfl, rfl⟩ | ⟨k0, hl, rfl, rfl⟩ | ⟨k0, hl, rfl, rfl⟩
 · simp at hq'
 · simp at hq'
 dsimp only at hl
 subst hl
 have zv := zv _ _ .nil
 refine ⟨_, _, .on ws (q ++ [v]) (pc + 1) (n - 1), ?_⟩
 rotate_left
 dsimp only at hl
 have zv := zv _ _ (.own l hl)
 refine ⟨_, _, .oo ws (l) (q ++ [v]) hl (pc + 1) (n - 1), ?_⟩
 rotate_left
 dsimp only at hl
 subst hl
 have zv := zv _ _ .nil
 refine ⟨_, _, .on ws (q ++ [v]) (pc + 1) (n - 1), ?_⟩
 rotate_left
 dsimp only at hl
 have zv := zv _ _ (.own l hl)
 refine ⟨_, _, .oo ws (l) (q ++ [v]) hl (pc + 1) (n - 1), ?_⟩
 rotate_left
 all_goals conv => lhs; rw [Z_loop_eq]
 all_goals simp [loopStep, run_F210l0, hn, hneg, ql1, ql2, w21, qn0, qn1, qn2, w0, hlt', hat, hct, hln, ho, hcc, w1, w2, wq, wq1, c48, c49, p49, sl, zp, zu, len_nil, len_own, zv, ia, r1, tq, sliceV, last1, own_last, last2, last2', own_last2, own_last2', bound, calm, alone, Value.oneCell', List.range_succ]
 all_goals exact Z_loop_cong (by simp [ho, hcc, List.range_succ])
theorem xs_set (hw : ws.length = 48) (hd : IsCode d c) (hcl : c.length < 2^30) (hi : InI d c pc 3 k) (hn : 0 < n) (hn2 : n <= 2^30) (hll : l.length < 2^30) (hq : q.length < 2^30) (h0 : 0 <= k) (h1 : k < 16)
   {f : Fr} {σ : S} (hE : Es (pbx d e0 e1 e2) ⟨ws, l, q ++ [b], pc⟩ n f σ) :
   ∃ f1 σ1, Es (pbx d e0 e1 e2) ⟨ws.set k.toNat b, l, q, pc + 1⟩ (n - 1) f1 σ1 /\ Z prog15z (.loop 1 F210l0 f σ) = Z prog15z (.loop 1 F210l0 f1 σ1) := by
 have hlt := hi.lt
 have hlt' : ¬ (c.length : Int) <= pc := by omega
 have hneg : ¬ (pc : Int) < 0 := by omega
 have w0 := wrap64 0 (by omega)
 have ql1 : (q.length : Int) <= (q.length : Int) + 1 := by omega
 have ql2 : (q.length : Int) <= (q.length : Int) + 2 := by omega
 have w21 : IntKind.i64.wrap ((q.length : Int) + 2 - 1) = (q.length : Int) + 1 := by rw [wrap64 _ (by omega)]; omega
 have qn0 : ¬ (q.length : Int) < 0 := by omega
 have qn1 : ¬ (q.length : Int) + 1 < 1 := by omega
 have qn2 : ¬ (q.length : Int) + 2 < 2 := by omega
 have hat := hi.at_
 have hct := hi.cut
 have hln := hd.len
 have ho := hd.one
 have hcc := hd.cells
 have w1 := wrap64 (n - 1) (by omega)
 have w2 := wrap64 ((pc : Int) + 1) (by omega)
 have wq := wrap64 (q.length : Int) (by omega)
 have wq1 := wrap64 ((q.length : Int) + 1) (by omega)
 have c48 := cut48 hw
 have c49 := cut49 hw
 have p49 := fun lv => put49 hw lv n false
 have sl := stL_length hw
 have zp := upZ (pops15 3)
 have zu := upZ (push15 3)
 simp only [show popR 3 = 1 from rfl, show pushI 3 = 0 from rfl] at zp zu
 have z := upZ (around15 (n := k) (m := 16) (by omega) (by omega))
 rw [around_id h0 h1] at z
 have pw := fun lv => putW hw lv (n - 1) false (i := k.toNat) (by omega) b
 have h2 : k.toNat + 1 <= 51 := by omega
 have tq := takeq q [b]
 rcases es_inv hE with ⟨hq', ⟨hl, rfl, rfl⟩ | ⟨hl, rfl, rfl⟩⟩ | ⟨hl, rfl, rfl⟩ | ⟨hl, rfl, rfl⟩ | ⟨k0, hl, rfl, rfl⟩ | ⟨k0, hl, rfl, rfl⟩
 · simp at hq'
 · simp at hq'
 dsimp only at hl
 subst hl
 refine ⟨_, _, .on (ws.set k.toNat b) (q) (pc + 1) (n - 1), ?_⟩
 rotate_left
 dsimp only at hl
 refine ⟨_, _, .oo (ws.set k.toNat b) (l) (q) hl (pc + 1) (n - 1), ?_⟩
 rotate_left
 dsimp only at hl
 subst hl
 refine ⟨_, _, .on (ws.set k.toNat b) (q) (pc + 1) (n - 1), ?_⟩
 rotate_left
 dsimp only at hl
 refine ⟨_, _, .oo (ws.set k.toNat b) (l) (q) hl (pc + 1) (n - 1), ?_⟩
 rotate_left
 all_goals conv => lhs; rw [Z_loop_eq]
 all_goals simp [loopStep, run_F210l0, hn, hneg, ql1, ql2, w21, qn0, qn1, qn2, w0, hlt', hat, hct, hln, ho, hcc, w1, w2, wq, wq1, c48, c49, p49, sl, zp, zu, len_nil, len_own, z, h0, h1, h2, pw, tq, sliceV, last1, own_last, last2, last2', own_last2, own_last2', bound, calm, alone, Value.oneCell', List.range_succ]
 all_goals exact Z_loop_cong (by simp [ho, hcc, List.range_succ])
theorem xs_store (hw : ws.length = 48) (hd : IsCode d c) (hcl : c.length < 2^30) (hi : InI d c pc 5 k) (hn : 0 < n) (hn2 : n <= 2^30) (hll : l.length < 2^30) (hq : q.length < 2^30) (h0 : 0 <= k) (h1 : k <= 7) (ha : Bd a)
   {f : Fr} {σ : S} (hE : Es (pbx d e0 e1 e2) ⟨ws, l, q ++ [a, b], pc⟩ n f σ) :
   ∃ f1 σ1, Es (pbx d e0 e1 e2) ⟨stW ws a k b, l ++ [1, a, k, b], q, pc + 1⟩ (n - 1) f1 σ1 /\ Z prog15z (.loop 1 F210l0 f σ) = Z prog15z (.loop 1 F210l0 f1 σ1) := by
 have hlt := hi.lt
 have hlt' : ¬ (c.length : Int) <= pc := by omega
 have hneg : ¬ (pc : Int) < 0 := by omega
 have w0 := wrap64 0 (by omega)
 have ql1 : (q.length : Int) <= (q.length : Int) + 1 := by omega
 have ql2 : (q.length : Int) <= (q.length : Int) + 2 := by omega
 have w21 : IntKind.i64.wrap ((q.length : Int) + 2 - 1) = (q.length : Int) + 1 := by rw [wrap64 _ (by omega)]; omega
 have qn0 : ¬ (q.length : Int) < 0 := by omega
 have qn1 : ¬ (q.length : Int) + 1 < 1 := by omega
 have qn2 : ¬ (q.length : Int) + 2 < 2 := by omega
 have hat := hi.at_
 have hct := hi.cut
 have hln := hd.len
 have ho := hd.one
 have hcc := hd.cells
 have w1 := wrap64 (n - 1) (by omega)
 have w2 := wrap64 ((pc : Int) + 1) (by omega)
 have wq := wrap64 (q.length : Int) (by omega)
 have wq1 := wrap64 ((q.length : Int) + 1) (by omega)
 have c48 := cut48 hw
 have c49 := cut49 hw
 have p49 := fun lv => put49 hw lv n false
 have sl := stL_length hw
 have zp := upZ (pops15 5)
 have zu := upZ (push15 5)
 simp only [show popR 5 = 2 from rfl, show pushI 5 = 0 from rfl] at zp zu
 have z := upZ (around15 (n := k) (m := 8) (by omega) (by omega))
 rw [around_id h0 (by omega)] at z
 have zs := fun lv τ (hL : Lg l lv τ) => store_Z hw hL (by omega) (n - 1) false ha (f := k) (by omega) (x := b)
 have tq := takeq q [a, b]
 rcases es_inv hE with ⟨hq', ⟨hl, rfl, rfl⟩ | ⟨hl, rfl, rfl⟩⟩ | ⟨hl, rfl, rfl⟩ | ⟨hl, rfl, rfl⟩ | ⟨k0, hl, rfl, rfl⟩ | ⟨k0, hl, rfl, rfl⟩
 · simp at hq'
 · simp at hq'
 dsimp only at hl
 subst hl
 have zs := zs _ _ .nil
 refine ⟨_, _, .oo (stW ws a k b) ([] ++ [1, a, k, b]) (q) (by simp) (pc + 1) (n - 1), ?_⟩
 rotate_left
 dsimp only at hl
 have zs := zs _ _ (.own l hl)
 refine ⟨_, _, .oo (stW ws a k b) (l ++ [1, a, k, b]) (q) (by simp) (pc + 1) (n - 1), ?_⟩
 rotate_left
 dsimp only at hl
 subst hl
 have zs := zs _ _ .nil
 refine ⟨_, _, .oo (stW ws a k b) ([] ++ [1, a, k, b]) (q) (by simp) (pc + 1) (n - 1), ?_⟩
 rotate_left
 dsimp only at hl
 have zs := zs _ _ (.own l hl)
 refine ⟨_, _, .oo (stW ws a k b) (l ++ [1, a, k, b]) (q) (by simp) (pc + 1) (n - 1), ?_⟩
 rotate_left
 all_goals conv => lhs; rw [Z_loop_eq]
 all_goals simp [loopStep, run_F210l0, hn, hneg, ql1, ql2, w21, qn0, qn1, qn2, w0, hlt', hat, hct, hln, ho, hcc, w1, w2, wq, wq1, c48, c49, p49, sl, zp, zu, len_nil, len_own, z, zs, tq, sliceV, last1, own_last, last2, last2', own_last2, own_last2', bound, calm, alone, Value.oneCell', List.range_succ]
 all_goals exact Z_loop_cong (by simp [ho, hcc, List.range_succ])
theorem xs_effect (hw : ws.length = 48) (hd : IsCode d c) (hcl : c.length < 2^30) (hi : InI d c pc 20 k) (hn : 0 < n) (hn2 : n <= 2^30) (hll : l.length < 2^30) (hq : q.length < 2^30) 
   {f : Fr} {σ : S} (hE : Es (pbx d e0 e1 e2) ⟨ws, l, q ++ [a, b], pc⟩ n f σ) :
   ∃ f1 σ1, Es (pbx d e0 e1 e2) ⟨ws, l ++ [2, a, b, 0], q, pc + 1⟩ (n - 1) f1 σ1 /\ Z prog15z (.loop 1 F210l0 f σ) = Z prog15z (.loop 1 F210l0 f1 σ1) := by
 have hlt := hi.lt
 have hlt' : ¬ (c.length : Int) <= pc := by omega
 have hneg : ¬ (pc : Int) < 0 := by omega
 have w0 := wrap64 0 (by omega)
 have ql1 : (q.length : Int) <= (q.length : Int) + 1 := by omega
 have ql2 : (q.length : Int) <= (q.length : Int) + 2 := by omega
 have w21 : IntKind.i64.wrap ((q.length : Int) + 2 - 1) = (q.length : Int) + 1 := by rw [wrap64 _ (by omega)]; omega
 have qn0 : ¬ (q.length : Int) < 0 := by omega
 have qn1 : ¬ (q.length : Int) + 1 < 1 := by omega
 have qn2 : ¬ (q.length : Int) + 2 < 2 := by omega
 have hat := hi.at_
 have hct := hi.cut
 have hln := hd.len
 have ho := hd.one
 have hcc := hd.cells
 have w1 := wrap64 (n - 1) (by omega)
 have w2 := wrap64 ((pc : Int) + 1) (by omega)
 have wq := wrap64 (q.length : Int) (by omega)
 have wq1 := wrap64 ((q.length : Int) + 1) (by omega)
 have c48 := cut48 hw
 have c49 := cut49 hw
 have p49 := fun lv => put49 hw lv n false
 have sl := stL_length hw
 have zp := upZ (pops15 20)
 have zu := upZ (push15 20)
 simp only [show popR 20 = 2 from rfl, show pushI 20 = 0 from rfl] at zp zu
 have ia : ints l ++ [V.int 2, V.int a, V.int b, V.int 0] = ints (l ++ [2, a, b, 0]) := by simp [ints]
 have r1 : roomFor (l.length + 4) 8 = true := by simp [roomFor]; omega
 have r2 : roomFor 4 8 = true := by decide
 have p48 := fun u v => put48 hw u (n - 1) false v
 have tq := takeq q [a, b]
 rcases es_inv hE with ⟨hq', ⟨hl, rfl, rfl⟩ | ⟨hl, rfl, rfl⟩⟩ | ⟨hl, rfl, rfl⟩ | ⟨hl, rfl, rfl⟩ | ⟨k0, hl, rfl, rfl⟩ | ⟨k0, hl, rfl, rfl⟩
 · simp at hq'
 · simp at hq'
 dsimp only at hl
 subst hl
 refine ⟨_, _, .oo ws ([] ++ [2, a, b, 0]) (q) (by simp) (pc + 1) (n - 1), ?_⟩
 rotate_left
 dsimp only at hl
 refine ⟨_, _, .oo ws (l ++ [2, a, b, 0]) (q) (by simp) (pc + 1) (n - 1), ?_⟩
 rotate_left
 dsimp only at hl
 subst hl
 refine ⟨_, _, .oo ws ([] ++ [2, a, b, 0]) (q) (by simp) (pc + 1) (n - 1), ?_⟩
 rotate_left
 dsimp only at hl
 refine ⟨_, _, .oo ws (l ++ [2, a, b, 0]) (q) (by simp) (pc + 1) (n - 1), ?_⟩
 rotate_left
 all_goals conv => lhs; rw [Z_loop_eq]
 all_goals simp [loopStep, run_F210l0, hn, hneg, ql1, ql2, w21, qn0, qn1, qn2, w0, hlt', hat, hct, hln, ho, hcc, w1, w2, wq, wq1, c48, c49, p49, sl, zp, zu, len_nil, len_own, ia, r1, r2, p48, tq, sliceV, last1, own_last, last2, last2', own_last2, own_last2', bound, calm, alone, Value.oneCell', List.range_succ]
 all_goals try rw [show ([V.int 2, V.int a, V.int b, V.int 0] : List V) = ints [2, a, b, 0] from rfl]
 all_goals exact Z_loop_cong (by simp [ho, hcc, List.range_succ])
theorem xs_unl0 (hw : ws.length = 48) (hd : IsCode d c) (hcl : c.length < 2^30) (hi : InI d c pc 19 k) (hn : 0 < n) (hn2 : n <= 2^30) (hll : l.length < 2^30) (hq : q.length < 2^30) (hk : k = m)
   {f : Fr} {σ : S} (hE : Es (pbx d e0 e1 e2) ⟨ws, l, q ++ [0], pc⟩ n f σ) :
   ∃ f1 σ1, Es (pbx d e0 e1 e2) ⟨ws, l, q, m⟩ (n - 1) f1 σ1 /\ Z prog15z (.loop 1 F210l0 f σ) = Z prog15z (.loop 1 F210l0 f1 σ1) := by
 have hlt := hi.lt
 have hlt' : ¬ (c.length : Int) <= pc := by omega
 have hneg : ¬ (pc : Int) < 0 := by omega
 have w0 := wrap64 0 (by omega)
 have ql1 : (q.length : Int) <= (q.length : Int) + 1 := by omega
 have ql2 : (q.length : Int) <= (q.length : Int) + 2 := by omega
 have w21 : IntKind.i64.wrap ((q.length : Int) + 2 - 1) = (q.length : Int) + 1 := by rw [wrap64 _ (by omega)]; omega
 have qn0 : ¬ (q.length : Int) < 0 := by omega
 have qn1 : ¬ (q.length : Int) + 1 < 1 := by omega
 have qn2 : ¬ (q.length : Int) + 2 < 2 := by omega
 have hat := hi.at_
 have hct := hi.cut
 have hln := hd.len
 have ho := hd.one
 have hcc := hd.cells
 have w1 := wrap64 (n - 1) (by omega)
 have w2 := wrap64 ((pc : Int) + 1) (by omega)
 have wq := wrap64 (q.length : Int) (by omega)
 have wq1 := wrap64 ((q.length : Int) + 1) (by omega)
 have c48 := cut48 hw
 have c49 := cut49 hw
 have p49 := fun lv => put49 hw lv n false
 have sl := stL_length hw
 have zp := upZ (pops15 19)
 have zu := upZ (push15 19)
 simp only [show popR 19 = 1 from rfl, show pushI 19 = 0 from rfl] at zp zu
 subst hk
 have tq := takeq q [0]
 rcases es_inv hE with ⟨hq', ⟨hl, rfl, rfl⟩ | ⟨hl, rfl, rfl⟩⟩ | ⟨hl, rfl, rfl⟩ | ⟨hl, rfl, rfl⟩ | ⟨k0, hl, rfl, rfl⟩ | ⟨k0, hl, rfl, rfl⟩
 · simp at hq'
 · simp at hq'
 dsimp only at hl
 subst hl
 refine ⟨_, _, .on ws (q) (m) (n - 1), ?_⟩
 rotate_left
 dsimp only at hl
 refine ⟨_, _, .oo ws (l) (q) hl (m) (n - 1), ?_⟩
 rotate_left
 dsimp only at hl
 subst hl
 refine ⟨_, _, .on ws (q) (m) (n - 1), ?_⟩
 rotate_left
 dsimp only at hl
 refine ⟨_, _, .oo ws (l) (q) hl (m) (n - 1), ?_⟩
 rotate_left
 all_goals conv => lhs; rw [Z_loop_eq]
 all_goals simp [loopStep, run_F210l0, hn, hneg, ql1, ql2, w21, qn0, qn1, qn2, w0, hlt', hat, hct, hln, ho, hcc, w1, w2, wq, wq1, c48, c49, p49, sl, zp, zu, len_nil, len_own, tq, sliceV, last1, own_last, last2, last2', own_last2, own_last2', bound, calm, alone, Value.oneCell', List.range_succ]
 all_goals exact Z_loop_cong (by simp [ho, hcc, List.range_succ])
theorem xs_unl1 (hw : ws.length = 48) (hd : IsCode d c) (hcl : c.length < 2^30) (hi : InI d c pc 19 k) (hn : 0 < n) (hn2 : n <= 2^30) (hll : l.length < 2^30) (hq : q.length < 2^30) (hb : b ≠ 0)
   {f : Fr} {σ : S} (hE : Es (pbx d e0 e1 e2) ⟨ws, l, q ++ [b], pc⟩ n f σ) :
   ∃ f1 σ1, Es (pbx d e0 e1 e2) ⟨ws, l, q, pc + 1⟩ (n - 1) f1 σ1 /\ Z prog15z (.loop 1 F210l0 f σ) = Z prog15z (.loop 1 F210l0 f1 σ1) := by
 have hlt := hi.lt
 have hlt' : ¬ (c.length : Int) <= pc := by omega
 have hneg : ¬ (pc : Int) < 0 := by omega
 have w0 := wrap64 0 (by omega)
 have ql1 : (q.length : Int) <= (q.length : Int) + 1 := by omega
 have ql2 : (q.length : Int) <= (q.length : Int) + 2 := by omega
 have w21 : IntKind.i64.wrap ((q.length : Int) + 2 - 1) = (q.length : Int) + 1 := by rw [wrap64 _ (by omega)]; omega
 have qn0 : ¬ (q.length : Int) < 0 := by omega
 have qn1 : ¬ (q.length : Int) + 1 < 1 := by omega
 have qn2 : ¬ (q.length : Int) + 2 < 2 := by omega
 have hat := hi.at_
 have hct := hi.cut
 have hln := hd.len
 have ho := hd.one
 have hcc := hd.cells
 have w1 := wrap64 (n - 1) (by omega)
 have w2 := wrap64 ((pc : Int) + 1) (by omega)
 have wq := wrap64 (q.length : Int) (by omega)
 have wq1 := wrap64 ((q.length : Int) + 1) (by omega)
 have c48 := cut48 hw
 have c49 := cut49 hw
 have p49 := fun lv => put49 hw lv n false
 have sl := stL_length hw
 have zp := upZ (pops15 19)
 have zu := upZ (push15 19)
 simp only [show popR 19 = 1 from rfl, show pushI 19 = 0 from rfl] at zp zu
 have tq := takeq q [b]
 rcases es_inv hE with ⟨hq', ⟨hl, rfl, rfl⟩ | ⟨hl, rfl, rfl⟩⟩ | ⟨hl, rfl, rfl⟩ | ⟨hl, rfl, rfl⟩ | ⟨k0, hl, rfl, rfl⟩ | ⟨k0, hl, rfl, rfl⟩
 · simp at hq'
 · simp at hq'
 dsimp only at hl
 subst hl
 refine ⟨_, _, .onx ws (q) (pc + 1) (n - 1) k, ?_⟩
 rotate_left
 dsimp only at hl
 refine ⟨_, _, .oox ws (l) (q) hl (pc + 1) (n - 1) k, ?_⟩
 rotate_left
 dsimp only at hl
 subst hl
 refine ⟨_, _, .onx ws (q) (pc + 1) (n - 1) k, ?_⟩
 rotate_left
 dsimp only at hl
 refine ⟨_, _, .oox ws (l) (q) hl (pc + 1) (n - 1) k, ?_⟩
 rotate_left
 all_goals conv => lhs; rw [Z_loop_eq]
 all_goals simp [loopStep, run_F210l0, hn, hneg, ql1, ql2, w21, qn0, qn1, qn2, w0, hlt', hat, hct, hln, ho, hcc, w1, w2, wq, wq1, c48, c49, p49, sl, zp, zu, len_nil, len_own, hb, tq, sliceV, last1, own_last, last2, last2', own_last2, own_last2', bound, calm, alone, Value.oneCell', List.range_succ]
 all_goals exact Z_loop_cong (by simp [ho, hcc, List.range_succ])
theorem xs_jump (hw : ws.length = 48) (hd : IsCode d c) (hcl : c.length < 2^30) (hi : InI d c pc 18 k) (hn : 0 < n) (hn2 : n <= 2^30) (hll : l.length < 2^30) (hq : q.length < 2^30) (hk : k = m)
   {f : Fr} {σ : S} (hE : Es (pbx d e0 e1 e2) ⟨ws, l, q, pc⟩ n f σ) :
   ∃ f1 σ1, Es (pbx d e0 e1 e2) ⟨ws, l, q, m⟩ (n - 1) f1 σ1 /\ Z prog15z (.loop 1 F210l0 f σ) = Z prog15z (.loop 1 F210l0 f1 σ1) := by
 have hlt := hi.lt
 have hlt' : ¬ (c.length : Int) <= pc := by omega
 have hneg : ¬ (pc : Int) < 0 := by omega
 have w0 := wrap64 0 (by omega)
 have ql1 : (q.length : Int) <= (q.length : Int) + 1 := by omega
 have ql2 : (q.length : Int) <= (q.length : Int) + 2 := by omega
 have w21 : IntKind.i64.wrap ((q.length : Int) + 2 - 1) = (q.length : Int) + 1 := by rw [wrap64 _ (by omega)]; omega
 have qn0 : ¬ (q.length : Int) < 0 := by omega
 have qn1 : ¬ (q.length : Int) + 1 < 1 := by omega
 have qn2 : ¬ (q.length : Int) + 2 < 2 := by omega
 have hat := hi.at_
 have hct := hi.cut
 have hln := hd.len
 have ho := hd.one
 have hcc := hd.cells
 have w1 := wrap64 (n - 1) (by omega)
 have w2 := wrap64 ((pc : Int) + 1) (by omega)
 have wq := wrap64 (q.length : Int) (by omega)
 have wq1 := wrap64 ((q.length : Int) + 1) (by omega)
 have c48 := cut48 hw
 have c49 := cut49 hw
 have p49 := fun lv => put49 hw lv n false
 have sl := stL_length hw
 have zp := upZ (pops15 18)
 have zu := upZ (push15 18)
 simp only [show popR 18 = 0 from rfl, show pushI 18 = 0 from rfl] at zp zu
 subst hk
 have tq := takeq q []
 rw [List.append_nil] at tq
 rcases es_inv hE with ⟨hq', ⟨hl, rfl, rfl⟩ | ⟨hl, rfl, rfl⟩⟩ | ⟨hl, rfl, rfl⟩ | ⟨hl, rfl, rfl⟩ | ⟨k0, hl, rfl, rfl⟩ | ⟨k0, hl, rfl, rfl⟩
 dsimp only at hl hq'
 subst hq'
 subst hl
 refine ⟨_, _, .nn ws (m) (n - 1), ?_⟩
 rotate_left
 dsimp only at hl hq'
 subst hq'
 refine ⟨_, _, .no ws (l) hl (m) (n - 1), ?_⟩
 rotate_left
 dsimp only at hl
 subst hl
 refine ⟨_, _, .on ws (q) (m) (n - 1), ?_⟩
 rotate_left
 dsimp only at hl
 refine ⟨_, _, .oo ws (l) (q) hl (m) (n - 1), ?_⟩
 rotate_left
 dsimp only at hl
 subst hl
 refine ⟨_, _, .on ws (q) (m) (n - 1), ?_⟩
 rotate_left
 dsimp only at hl
 refine ⟨_, _, .oo ws (l) (q) hl (m) (n - 1), ?_⟩
 rotate_left
 all_goals conv => lhs; rw [Z_loop_eq]
 all_goals simp [loopStep, run_F210l0, hn, hneg, ql1, ql2, w21, qn0, qn1, qn2, w0, hlt', hat, hct, hln, ho, hcc, w1, w2, wq, wq1, c48, c49, p49, sl, zp, zu, len_nil, len_own, tq, sliceV, last1, own_last, last2, last2', own_last2, own_last2', bound, calm, alone, Value.oneCell', List.range_succ]
 all_goals exact Z_loop_cong (by simp [ho, hcc, List.range_succ])
end
end Go.Pm
end SRl
