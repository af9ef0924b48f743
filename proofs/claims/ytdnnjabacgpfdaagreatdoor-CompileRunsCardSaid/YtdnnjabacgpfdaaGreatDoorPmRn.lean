/- Chapter 15: Execute comes to its end. Chapter 15: Execute stops. Chapter 15: Execute, whole. Chapter 15: Begin. -/
import Derived.Test.YtdnnjabacgpfdaaGreatDoorPmRl
import Derived.Test.YtdnnjabacgpfdaaGreatDoorPmRj
import Derived.Test.YtdnnjabacgpfdaaGreatDoorPmG1
set_option linter.unusedSimpArgs false
set_option linter.unusedVariables false
section SRn
namespace Go.Pm
open F Gr
set_option maxHeartbeats 2000000
theorem ldF_bd {ws : List Int} (h : ∀ x ∈ ws, Bd x) (b n : Int) : Bd (ldF ws b n) := by
 unfold ldF; split
 · exact getN_bd h _
 · omega
theorem pv_bd {ws : List Int} {op n v : Int} {r : List Int} (h : Pv ws op n r v) (hw : ∀ x ∈ ws, Bd x) (hr : ∀ x ∈ r, Bd x) : Bd v := by
 cases h with
 | lit h => exact h
 | var => exact getN_bd hw _
 | self => omega
 | other => omega
 | tick => omega
 | field => exact ldF_bd hw _ _
 | @neg n b => have := hr b (by simp); omega
 | @not n b => have := tr_rng (decide (b = 0)); omega
 | @ar op n a b _ => exact calc_bd (hr a (by simp)) (hr b (by simp))
structure Iv (m : MS) (n : Int) : Prop where
 len : m.ws.length = 48
 bd : ∀ x ∈ m.ws, Bd x
 qb : ∀ x ∈ m.q, Bd x
 ql : m.q.length + n <= 2^29
 ll : m.l.length + 4 * n <= 2^29
theorem app_bd {q r : List Int} (h : ∀ x ∈ q ++ r, Bd x) : (∀ x ∈ q, Bd x) /\ ∀ x ∈ r, Bd x := ⟨fun x hx => h x (List.mem_append_left _ hx), fun x hx => h x (List.mem_append_right _ hx)⟩
theorem bd_app {q r : List Int} (h : ∀ x ∈ q, Bd x) (g : ∀ x ∈ r, Bd x) : ∀ x ∈ q ++ r, Bd x := fun x hx => by
 rcases List.mem_append.1 hx with h' | h'
 · exact h x h'
 · exact g x h'
theorem bd1 {v : Int} (h : Bd v) : ∀ x ∈ [v], Bd x := fun x hx => by simp at hx; subst hx; exact h
theorem x1_iv {c : Cd} {m m1 : MS} {n : Int} (h : X1 c m m1) (i : Iv m n) (hn : 0 < n) : Iv m1 (n - 1) := by
 obtain ⟨i1, i2, i3, i4, i5⟩ := i
 cases h with
 | psh hc hP =>
   obtain ⟨hq, hr⟩ := app_bd i3
   simp only [List.length_append] at i4
   exact ⟨i1, i2, bd_app hq (bd1 (pv_bd hP i2 hr)), by simp only [List.length_append, List.length_cons, List.length_nil]; omega, by simp only at i5 ⊢; omega⟩
 | set hc h0 h1 =>
   obtain ⟨hq, hr⟩ := app_bd i3
   simp only [List.length_append, List.length_cons, List.length_nil] at i4
   exact ⟨by simpa using i1, set_bd i2 (hr _ (by simp)) _, hq, by simp only; omega, by simp only at i5 ⊢; omega⟩
 | store hc h0 h1 =>
   obtain ⟨hq, hr⟩ := app_bd i3
   simp only [List.length_append, List.length_cons, List.length_nil] at i4
   exact ⟨by simp only [stW_length]; exact i1, stW_bd i2 (hr _ (by simp)), hq, by simp only; omega, by simp only [List.length_append, List.length_cons, List.length_nil] at i5 ⊢; omega⟩
 | effect hc =>
   obtain ⟨hq, hr⟩ := app_bd i3
   simp only [List.length_append, List.length_cons, List.length_nil] at i4
   exact ⟨i1, i2, hq, by simp only; omega, by simp only [List.length_append, List.length_cons, List.length_nil] at i5 ⊢; omega⟩
 | jump hc => exact ⟨i1, i2, i3, by simp only at i4 ⊢; omega, by simp only at i5 ⊢; omega⟩
 | unl0 hc =>
   obtain ⟨hq, hr⟩ := app_bd i3
   simp only [List.length_append, List.length_cons, List.length_nil] at i4
   exact ⟨i1, i2, hq, by simp only; omega, by simp only at i5 ⊢; omega⟩
 | unl1 hc hb =>
   obtain ⟨hq, hr⟩ := app_bd i3
   simp only [List.length_append, List.length_cons, List.length_nil] at i4
   exact ⟨i1, i2, hq, by simp only; omega, by simp only at i5 ⊢; omega⟩
section
variable {d : D} {c : Cd} {e0 e1 e2 : Int}
theorem x1_Z (hd : IsCode d c) (hcl : c.length < 2^30) {m m1 : MS} {n : Int} (h : X1 c m m1) (i : Iv m n) (hn : 0 < n) {f : Fr} {σ : S} (hE : Es (pbx d e0 e1 e2) m n f σ) :
   ∃ f1 σ1, Es (pbx d e0 e1 e2) m1 (n - 1) f1 σ1 /\ Z prog15z (.loop 1 F210l0 f σ) = Z prog15z (.loop 1 F210l0 f1 σ1) := by
 obtain ⟨i1, i2, i3, i4, i5⟩ := i
 cases h with
 | @psh ws l q r pc op k v hc hP =>
   obtain ⟨hq, hr⟩ := app_bd i3
   simp only [List.length_append] at i4 i5
   have hr' : r = [] \/ (∃ b, r = [b]) \/ ∃ a b, r = [a, b] := by
     cases hP <;> simp
   rcases hr' with rfl | ⟨b, rfl⟩ | ⟨a, b, rfl⟩
   · rw [List.append_nil] at hE
     exact xs_psh0 i1 hd hcl (inI hd hc) hn (by omega) (by omega) (by omega) hP hE
   · exact xs_psh1 i1 hd hcl (inI hd hc) hn (by omega) (by omega) (by omega) hP (hr _ (by simp)) hE
   · exact xs_psh2 i1 hd hcl (inI hd hc) hn (by omega) (by omega) (by omega) hP (hr _ (by simp)) (hr _ (by simp)) hE
 | set hc h0 h1 =>
   simp only [List.length_append, List.length_cons, List.length_nil] at i4 i5
   exact xs_set i1 hd hcl (inI hd hc) hn (by omega) (by omega) (by omega) h0 h1 hE
 | store hc h0 h1 =>
   obtain ⟨hq, hr⟩ := app_bd i3
   simp only [List.length_append, List.length_cons, List.length_nil] at i4 i5
   exact xs_store i1 hd hcl (inI hd hc) hn (by omega) (by omega) (by omega) h0 h1 (hr _ (by simp)) hE
 | effect hc =>
   simp only [List.length_append, List.length_cons, List.length_nil] at i4 i5
   exact xs_effect i1 hd hcl (inI hd hc) hn (by omega) (by omega) (by omega) hE
 | jump hc =>
   simp only at i4 i5
   exact xs_jump i1 hd hcl (inI hd hc) hn (by omega) (by omega) (by omega) rfl hE
 | unl0 hc =>
   simp only [List.length_append, List.length_cons, List.length_nil] at i4 i5
   exact xs_unl0 i1 hd hcl (inI hd hc) hn (by omega) (by omega) (by omega) rfl hE
 | unl1 hc hb =>
   simp only [List.length_append, List.length_cons, List.length_nil] at i4 i5
   exact xs_unl1 i1 hd hcl (inI hd hc) hn (by omega) (by omega) (by omega) hb hE
theorem xs_Z (hd : IsCode d c) (hcl : c.length < 2^30) {k : Nat} {m m1 : MS} (h : Xs c k m m1) : ∀ {n : Int}, Iv m n -> k <= n -> ∀ {f : Fr} {σ : S}, Es (pbx d e0 e1 e2) m n f σ ->
   Iv m1 (n - k) /\ ∃ f1 σ1, Es (pbx d e0 e1 e2) m1 (n - k) f1 σ1 /\ Z prog15z (.loop 1 F210l0 f σ) = Z prog15z (.loop 1 F210l0 f1 σ1) := by
 induction h with
 | z => intro n i _ f σ hE; simp only [Int.natCast_zero, Int.sub_zero]; exact ⟨i, f, σ, hE, rfl⟩
 | @s k m m1 m2 h _ ih =>
   intro n i hk f σ hE
   obtain ⟨f1, σ1, g1, g2⟩ := x1_Z hd hcl h i (by omega) hE
   obtain ⟨j, f2, σ2, g3, g4⟩ := ih (x1_iv h i (by omega)) (by omega) g1
   rw [show n - 1 - (k : Int) = n - ((k + 1 : Nat) : Int) from by omega] at j g3
   exact ⟨j, f2, σ2, g3, g2.trans g4⟩
end
end Go.Pm
end SRn
section SRo
namespace Go.Pm
open F Gr
set_option maxHeartbeats 2000000
section
variable {d : D} {c : Cd} {e0 e1 e2 : Int} {ws l : List Int} {pc : Nat} {n k k0 : Int}
def endX : Option Res -> Option Res
 | some (.out .ret fr σ) => finish F210 1 fr σ
 | _ => none
def LeX (f : Fr) (σ σr : S) : Prop := endX (Z prog15z (.loop 1 F210l0 f σ)) = some (.ret (.bool true) σr)
theorem le_nn (hw : ws.length = 48) (hd : IsCode d c) (hcl : c.length < 2^30) (hi : InI d c pc 21 k) (hn : 0 < n) (hn2 : n <= 2^30) : LeX (eFr nilV0 pc) [.cells (stL ws nilV0 n false), pbx d e0 e1 e2] [.cells (stL ws nilV0 (n - 1) false)] := by
 have hlt := hi.lt
 have hlt' : ¬ (c.length : Int) <= pc := by omega
 have hneg : ¬ (pc : Int) < 0 := by omega
 have w0 := wrap64 0 (by omega)
 have hat := hi.at_
 have hct := hi.cut
 have hln := hd.len
 have ho := hd.one
 have hcc := hd.cells
 have w1 := wrap64 (n - 1) (by omega)
 have w2 := wrap64 ((pc : Int) + 1) (by omega)
 have c48 := cut48 hw
 have c49 := cut49 hw
 have c50 := cut50 hw
 have p49 := put49 hw nilV0 n false
 have sl := stL_length hw
 have zp := upZ (pops15 21)
 have zu := upZ (push15 21)
 simp only [show popR 21 = 0 from rfl, show pushI 21 = 0 from rfl] at zp zu
 unfold LeX
 rw [Z_loop_eq]
 simp [loopStep, run_F210l0, hn, hneg, w0, hlt', hat, hct, hln, ho, hcc, w1, w2, c48, c49, c50, p49, sl, zp, zu, len_nil, len_own, sliceV, bound, Value.oneCell', List.range_succ, endX, F210, outTL]
theorem le_no (hw : ws.length = 48) (hd : IsCode d c) (hcl : c.length < 2^30) (hi : InI d c pc 21 k) (hn : 0 < n) (hn2 : n <= 2^30) : LeX (eFr nilV0 pc) [.cells (stL ws (.own 2 l.length 1) n false), pbx d e0 e1 e2, .vec (ints l)] [.cells (stL ws (.own 1 l.length 1) (n - 1) false), .vec (ints l)] := by
 have hlt := hi.lt
 have hlt' : ¬ (c.length : Int) <= pc := by omega
 have hneg : ¬ (pc : Int) < 0 := by omega
 have w0 := wrap64 0 (by omega)
 have hat := hi.at_
 have hct := hi.cut
 have hln := hd.len
 have ho := hd.one
 have hcc := hd.cells
 have w1 := wrap64 (n - 1) (by omega)
 have w2 := wrap64 ((pc : Int) + 1) (by omega)
 have c48 := cut48 hw
 have c49 := cut49 hw
 have c50 := cut50 hw
 have p49 := put49 hw (.own 2 l.length 1) n false
 have sl := stL_length hw
 have zp := upZ (pops15 21)
 have zu := upZ (push15 21)
 simp only [show popR 21 = 0 from rfl, show pushI 21 = 0 from rfl] at zp zu
 unfold LeX
 rw [Z_loop_eq]
 simp [loopStep, run_F210l0, hn, hneg, w0, hlt', hat, hct, hln, ho, hcc, w1, w2, c48, c49, c50, p49, sl, zp, zu, len_nil, len_own, sliceV, bound, Value.oneCell', List.range_succ, endX, F210, outTL]
theorem le_on (hw : ws.length = 48) (hd : IsCode d c) (hcl : c.length < 2^30) (hi : InI d c pc 21 k) (hn : 0 < n) (hn2 : n <= 2^30) : LeX (eFr (.own 2 0 1) pc) [.cells (stL ws nilV0 n false), pbx d e0 e1 e2, .vec (ints [])] [.cells (stL ws nilV0 (n - 1) false)] := by
 have hlt := hi.lt
 have hlt' : ¬ (c.length : Int) <= pc := by omega
 have hneg : ¬ (pc : Int) < 0 := by omega
 have w0 := wrap64 0 (by omega)
 have hat := hi.at_
 have hct := hi.cut
 have hln := hd.len
 have ho := hd.one
 have hcc := hd.cells
 have w1 := wrap64 (n - 1) (by omega)
 have w2 := wrap64 ((pc : Int) + 1) (by omega)
 have c48 := cut48 hw
 have c49 := cut49 hw
 have c50 := cut50 hw
 have p49 := put49 hw nilV0 n false
 have sl := stL_length hw
 have zp := upZ (pops15 21)
 have zu := upZ (push15 21)
 simp only [show popR 21 = 0 from rfl, show pushI 21 = 0 from rfl] at zp zu
 unfold LeX
 rw [Z_loop_eq]
 simp [loopStep, run_F210l0, hn, hneg, w0, hlt', hat, hct, hln, ho, hcc, w1, w2, c48, c49, c50, p49, sl, zp, zu, len_nil, len_own, sliceV, bound, Value.oneCell', List.range_succ, endX, F210, outTL]
theorem le_oo (hw : ws.length = 48) (hd : IsCode d c) (hcl : c.length < 2^30) (hi : InI d c pc 21 k) (hn : 0 < n) (hn2 : n <= 2^30) : LeX (eFr (.own 2 0 1) pc) [.cells (stL ws (.own 3 l.length 1) n false), pbx d e0 e1 e2, .vec (ints []), .vec (ints l)] [.cells (stL ws (.own 1 l.length 1) (n - 1) false), .vec (ints l)] := by
 have hlt := hi.lt
 have hlt' : ¬ (c.length : Int) <= pc := by omega
 have hneg : ¬ (pc : Int) < 0 := by omega
 have w0 := wrap64 0 (by omega)
 have hat := hi.at_
 have hct := hi.cut
 have hln := hd.len
 have ho := hd.one
 have hcc := hd.cells
 have w1 := wrap64 (n - 1) (by omega)
 have w2 := wrap64 ((pc : Int) + 1) (by omega)
 have c48 := cut48 hw
 have c49 := cut49 hw
 have c50 := cut50 hw
 have p49 := put49 hw (.own 3 l.length 1) n false
 have sl := stL_length hw
 have zp := upZ (pops15 21)
 have zu := upZ (push15 21)
 simp only [show popR 21 = 0 from rfl, show pushI 21 = 0 from rfl] at zp zu
 unfold LeX
 rw [Z_loop_eq]
 simp [loopStep, run_F210l0, hn, hneg, w0, hlt', hat, hct, hln, ho, hcc, w1, w2, c48, c49, c50, p49, sl, zp, zu, len_nil, len_own, sliceV, bound, Value.oneCell', List.range_succ, endX, F210, outTL]
theorem le_onx (hw : ws.length = 48) (hd : IsCode d c) (hcl : c.length < 2^30) (hi : InI d c pc 21 k) (hn : 0 < n) (hn2 : n <= 2^30) : LeX (eFrx (.own 2 0 1) pc) [.cells (stL ws nilV0 n false), pbx d e0 e1 e2, .vec (ints []), .cells [.int 19, .int k0]] [.cells (stL ws nilV0 (n - 1) false)] := by
 have hlt := hi.lt
 have hlt' : ¬ (c.length : Int) <= pc := by omega
 have hneg : ¬ (pc : Int) < 0 := by omega
 have w0 := wrap64 0 (by omega)
 have hat := hi.at_
 have hct := hi.cut
 have hln := hd.len
 have ho := hd.one
 have hcc := hd.cells
 have w1 := wrap64 (n - 1) (by omega)
 have w2 := wrap64 ((pc : Int) + 1) (by omega)
 have c48 := cut48 hw
 have c49 := cut49 hw
 have c50 := cut50 hw
 have p49 := put49 hw nilV0 n false
 have sl := stL_length hw
 have zp := upZ (pops15 21)
 have zu := upZ (push15 21)
 simp only [show popR 21 = 0 from rfl, show pushI 21 = 0 from rfl] at zp zu
 unfold LeX
 rw [Z_loop_eq]
 simp [loopStep, run_F210l0, hn, hneg, w0, hlt', hat, hct, hln, ho, hcc, w1, w2, c48, c49, c50, p49, sl, zp, zu, len_nil, len_own, sliceV, bound, Value.oneCell', List.range_succ, endX, F210, outTL]
theorem le_oox (hw : ws.length = 48) (hd : IsCode d c) (hcl : c.length < 2^30) (hi : InI d c pc 21 k) (hn : 0 < n) (hn2 : n <= 2^30) : LeX (eFrx (.own 2 0 1) pc) [.cells (stL ws (.own 4 l.length 1) n false), pbx d e0 e1 e2, .vec (ints []), .cells [.int 19, .int k0], .vec (ints l)] [.cells (stL ws (.own 1 l.length 1) (n - 1) false), .vec (ints l)] := by
 have hlt := hi.lt
 have hlt' : ¬ (c.length : Int) <= pc := by omega
 have hneg : ¬ (pc : Int) < 0 := by omega
 have w0 := wrap64 0 (by omega)
 have hat := hi.at_
 have hct := hi.cut
 have hln := hd.len
 have ho := hd.one
 have hcc := hd.cells
 have w1 := wrap64 (n - 1) (by omega)
 have w2 := wrap64 ((pc : Int) + 1) (by omega)
 have c48 := cut48 hw
 have c49 := cut49 hw
 have c50 := cut50 hw
 have p49 := put49 hw (.own 4 l.length 1) n false
 have sl := stL_length hw
 have zp := upZ (pops15 21)
 have zu := upZ (push15 21)
 simp only [show popR 21 = 0 from rfl, show pushI 21 = 0 from rfl] at zp zu
 unfold LeX
 rw [Z_loop_eq]
 simp [loopStep, run_F210l0, hn, hneg, w0, hlt', hat, hct, hln, ho, hcc, w1, w2, c48, c49, c50, p49, sl, zp, zu, len_nil, len_own, sliceV, bound, Value.oneCell', List.range_succ, endX, F210, outTL]
end
end Go.Pm
end SRo
section SRp
namespace Go.Pm
open F Gr
set_option maxHeartbeats 2000000
section
variable {d : D} {c : Cd} {e0 e1 e2 : Int} {ws l : List Int} {pc : Nat} {n k : Int}
theorem le_any (hw : ws.length = 48) (hd : IsCode d c) (hcl : c.length < 2^30) (hc : c[pc]? = some (21, k)) (hn : 0 < n) (hn2 : n <= 2^30) {f : Fr} {σ : S} (hE : Es (pbx d e0 e1 e2) ⟨ws, l, [], pc⟩ n f σ) :
   LeX f σ (stS ws l (n - 1) false) := by
 have hi := inI hd hc
 rcases es_inv hE with ⟨hq', ⟨hl, rfl, rfl⟩ | ⟨hl, rfl, rfl⟩⟩ | ⟨hl, rfl, rfl⟩ | ⟨hl, rfl, rfl⟩ | ⟨k0, hl, rfl, rfl⟩ | ⟨k0, hl, rfl, rfl⟩
 · dsimp only at hl; subst hl; exact le_nn hw hd hcl hi hn hn2
 · rw [stS_cons _ hl]; exact le_no hw hd hcl hi hn hn2
 · dsimp only at hl; subst hl; exact le_on hw hd hcl hi hn hn2
 · rw [stS_cons _ hl]; exact le_oo hw hd hcl hi hn hn2
 · dsimp only at hl; subst hl; exact le_onx hw hd hcl hi hn hn2
 · rw [stS_cons _ hl]; exact le_oox hw hd hcl hi hn hn2
theorem endX_ex {x : Option Res} {r : Res} (h : endX x = some r) : ∃ fr σ, x = some (.out .ret fr σ) /\ finish F210 1 fr σ = some r := by
 unfold endX at h
 split at h
 · exact ⟨_, _, rfl, h⟩
 · cases h
theorem execute_Z (hw : ws.length = 48) (hb : ∀ x ∈ ws, Bd x) (hd : IsCode d c) (hcl : c.length < 2^30) (hn2 : n <= 2^26) {j : Nat} {ws' l' : List Int} {pc' : Nat} (hx : Xs c j ⟨ws, [], [], pc⟩ ⟨ws', l', [], pc'⟩) (hc : c[pc']? = some (21, k)) (hj : j < n) :
   Z prog15z (.call 210 [.ptr 0 0, pgD d e0 e1 e2, .int pc] [.cells (stL ws nilV0 n false)]) = some (.ret (.bool true) (stS ws' l' (n - j - 1) false)) := by
 have hE := Es.nn (bx := pbx d e0 e1 e2) ws pc n
 obtain ⟨i, f1, σ1, g1, g2⟩ := xs_Z hd hcl hx (n := n) ⟨hw, hb, by simp, by simp only [List.length_nil]; omega, by simp only [List.length_nil]; omega⟩ (by omega) hE
 have hl := le_any i.len hd hcl hc (by omega) (by omega) g1
 unfold LeX at hl
 rw [<- g2] at hl
 obtain ⟨fr, σ', z, hf⟩ := endX_ex hl
 have ho := hd.one
 have hcc := hd.cells
 refine Z_call (pf := F210) rfl rfl ?_
 simp only [F210] at hf
 simp [F210, pgD, z, hf, ho, hcc, -finish]
end
end Go.Pm
end SRp
section SRq
namespace Go.Pm
open F Gr
set_option maxHeartbeats 2000000
def begV (xs : List Int) (i : Nat) : Int := (if i < xs.length then around (getN xs i) 2000 else 0) - 1000
theorem getN_i64 {xs : List Int} (hx : ∀ x ∈ xs, I64 x) (i : Nat) : I64 (getN xs i) := by
 unfold getN
 rw [List.getD_eq_getElem?_getD]
 cases h : xs[i]? with
 | none => simp [I64]
 | some y => exact hx _ (List.mem_of_getElem? h)
theorem begV_bd {xs : List Int} (hx : ∀ x ∈ xs, I64 x) (i : Nat) : -1000 <= begV xs i /\ begV xs i <= 1000 := by
 have := around_lt (m := 2000) (getN_i64 hx i) (by omega)
 unfold begV; split <;> omega
def begW (xs : List Int) : Nat -> List Int
 | 0 => List.replicate 48 0
 | i + 1 => (begW xs i).set i (begV xs i)
theorem begW_length (xs : List Int) : ∀ i, (begW xs i).length = 48
 | 0 => by simp [begW]
 | i + 1 => by simp [begW, begW_length xs i]
theorem begW_bd {xs : List Int} (hx : ∀ x ∈ xs, I64 x) : ∀ i, ∀ x ∈ begW xs i, Bd x
 | 0 => fun x h => by simp [begW] at h; subst h; omega
 | i + 1 => set_bd (begW_bd hx i) (by have := begV_bd hx i; omega) i
section
variable {d : D} {xs : List Int} {n : Int}
theorem pick_one (hd : IsRow d xs) (hx : ∀ x ∈ xs, I64 x) (i : Nat) (hi : i < 2^30) : Z prog15z (.call 211 [.dat d, .int i, .int 2000] []) = some (.ret (.int (begV xs i + 1000)) []) := by
 refine Z_call (pf := F211) rfl rfl ?_
 have hln := hd.len
 have ho := hd.one
 have hc := hd.cells
 have hneg : ¬ (i : Int) < 0 := by omega
 unfold begV
 by_cases h : i < xs.length
 · rw [if_pos h]
   have h1 : ¬ (xs.length : Int) <= i := by omega
   have a := hd.at_ i (by omega) (by omega)
   have z := upZ (around_b (n := getN xs i) (m := 2000) (getN_i64 hx i) (by omega))
   have c := cut1_intsC xs i h
   rw [show (i : Int).toNat = i by omega] at a
   simp [F211, hln, hneg, h1, a, c, z, ho, hc, Value.oneCell']
 · rw [if_neg h]
   have h1 : (xs.length : Int) <= i := by omega
   simp [F211, hln, hneg, h1, ho, hc]
theorem beg_loop (hd : IsRow d xs) (hx : ∀ x ∈ xs, I64 x) (n : Int) : ∀ (m i : Nat), i + m = 48 ->
   Z prog15z (.loop 0 F208l0 [(0, .dat d), (5, .ptr 0 0), (6, .int i)] [.cells (stL (begW xs i) nilV0 n false)]) = some (.out (.exit 0) [(0, .dat d), (5, .ptr 0 0), (6, .int 48), (12, .bool false)] [.cells (stL (begW xs 48) nilV0 n false)])
 | 0, i, hi => by
   obtain rfl : i = 48 := by omega
   have ho := hd.one
   have hc := hd.cells
   rw [Z_loop_eq]
   simp [loopStep, run_F208l0, ho, hc, List.range_succ]
 | m + 1, i, hi => by
   have ho := hd.one
   have hc := hd.cells
   have w1 := wrap64 ((i : Int) + 1) (by omega)
   have b := begV_bd hx i
   have w2 : IntKind.i64.wrap (begV xs i + 1000 - 1000) = begV xs i := by rw [wrap64 _ (by omega)]; omega
   have w2' := wrap64 (begV xs i) (by omega)
   have i50 : i <= 50 := by omega
   have w3 := wrap64 ((i : Int) - 16) (by omega)
   have hi' : (i : Int) < 48 := by omega
   have z := pick_one hd hx i (by omega)
   have pw := putW (begW_length xs i) nilV0 n false (i := i) (by omega) (begV xs i)
   have sl := stL_length (begW_length xs i)
   rw [<- beg_loop hd hx n m (i + 1) (by omega)]
   conv => lhs; rw [Z_loop_eq]
   by_cases h16 : i < 16
   · have h16' : (i : Int) < 16 := by omega
     have hnn : (0 : Int) <= i := by omega
     simp [loopStep, run_F208l0, ho, hc, w1, w2, w2', i50, w3, hi', z, pw, sl, h16', hnn, begW, calm, alone, List.range_succ]
   · have h16' : ¬ (i : Int) < 16 := by omega
     have q1 : (0 : Int) <= (i : Int) - 16 := by omega
     have q0 : (16 : Int) <= i := by omega
     have q2 : (i : Int) - 16 < 32 := by omega
     have q3 : 16 + ((i : Int) - 16).toNat = i := by omega
     simp [loopStep, run_F208l0, ho, hc, w1, w2, w2', i50, w3, hi', z, pw, sl, h16', q0, q1, q2, q3, begW, calm, alone, List.range_succ]
theorem begin_Z (hd : IsRow d xs) (hx : ∀ x ∈ xs, I64 x) (n : Int) (h0 : 0 <= n) (h1 : n <= 2^30) : Z prog15z (.call 208 [.dat d, .int n] []) = some (.ret (.ptr 0 0) [.cells (stL (begW xs 48) nilV0 n false)]) := by
 refine Z_call (pf := F208) rfl rfl ?_
 have ho := hd.one
 have hc := hd.cells
 have z := beg_loop hd hx n 48 0 (by omega)
 simp only [Int.natCast_zero] at z
 have e : stL (begW xs 0) nilV0 n false = List.replicate 48 (.int 0) ++ [nilV0, .int n, .bool false] := by
   simp [stL, begW, ints]
 rw [e] at z
 simp only [List.replicate, List.cons_append, List.nil_append] at z
 simp [F208, ho, hc, z, List.range_succ]
end
end Go.Pm
end SRq
