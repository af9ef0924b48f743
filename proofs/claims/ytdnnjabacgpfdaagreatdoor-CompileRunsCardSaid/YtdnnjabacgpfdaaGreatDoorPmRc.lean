/- Chapter 15: the model's values of expressions: fields, operators. Chapter 15: the model's stores. Chapter 15: what evaluating statements does, plain. -/
import Derived.Test.YtdnnjabacgpfdaaGreatDoorPmRa
set_option linter.unusedSimpArgs false
set_option linter.unusedVariables false
section SRc
namespace Go.Pm
open F Gr
set_option maxHeartbeats 1000000
@[simp] theorem eqS_33' : eqS ⟨#[33]⟩ ⟨#[45]⟩ = false := by kernel_rfl
@[simp] theorem eqS_45' : eqS ⟨#[45]⟩ ⟨#[45]⟩ = true := by kernel_rfl
section
variable {vs : List ByteArray} {ws : List Int} {e a b : E}
theorem val_field (hw : ws.length = 48) (hb : ∀ x ∈ ws, Bd x) {s : ByteArray} {f : Bool} (hs : s ∈ fieldL) (hf : e.fine) (ih : ValZ vs ws e) : ValZ vs ws (.field f s e) := by
 intro l lv τ n c hL h1 h2
 simp only [size_field] at h1
 have w := wrap64 (n - 1) (by omega)
 have c49 := cut49 hw lv n c
 have p49 := put49 hw lv n c
 have z := ih l lv τ (n - 1) c hL (by omega) (by omega)
 have zf := upZ (field_Z s)
 have zl := load_Z hw hL (n - 1 - cE vs ws e) c (vE_bd (vs := vs) hb e hf) (fieldI_field hs)
 have hc : n - 1 - cE vs ws e = n - (cE vs ws e + 1) := by omega
 rw [hc] at z zl
 refine Z_call (pf := F212) rfl rfl ?_
 cases hL <;> simp [F212, w, c49, p49, stL_length hw, zf, sliceAddr, z, zl, vE, cE, hc, calm, alone, List.range_succ]
theorem val_neg (hw : ws.length = 48) (hb : ∀ x ∈ ws, Bd x) {f : Bool} (hf : e.fine) (ih : ValZ vs ws e) : ValZ vs ws (.un f true e) := by
 intro l lv τ n c hL h1 h2
 simp only [size_un] at h1
 have w := wrap64 (n - 1) (by omega)
 have c49 := cut49 hw lv n c
 have p49 := put49 hw lv n c
 have z := ih l lv τ (n - 1) c hL (by omega) (by omega)
 have hv := vE_bd (vs := vs) hb e hf
 have w2 := wrap64 (-(vE vs ws e)) (by omega)
 have hc : n - 1 - cE vs ws e = n - (cE vs ws e + 1) := by omega
 refine Z_call (pf := F212) rfl rfl ?_
 cases hL <;> simp [F212, ustr, w, c49, p49, stL_length hw, sliceAddr, z, w2, vE, cE, hc, calm, alone, List.range_succ]
theorem val_not (hw : ws.length = 48) (hb : ∀ x ∈ ws, Bd x) {f : Bool} (hf : e.fine) (ih : ValZ vs ws e) : ValZ vs ws (.un f false e) := by
 intro l lv τ n c hL h1 h2
 simp only [size_un] at h1
 have w := wrap64 (n - 1) (by omega)
 have c49 := cut49 hw lv n c
 have p49 := put49 hw lv n c
 have z := ih l lv τ (n - 1) c hL (by omega) (by omega)
 have t := truth_Z
 have hc : n - 1 - cE vs ws e = n - (cE vs ws e + 1) := by omega
 refine Z_call (pf := F212) rfl rfl ?_
 cases hL <;> simp [F212, ustr, w, c49, p49, stL_length hw, sliceAddr, z, t, vE, cE, hc, calm, alone, List.range_succ]
def Bop.is2 (o : Bop) (x : ByteArray) : Bool := eqS o.str x
theorem is_and (o : Bop) : eqS o.str ⟨#[38, 38]⟩ = (match o with | .and => true | _ => false) := by cases o <;> kernel_rfl
theorem is_or (o : Bop) : eqS o.str ⟨#[124, 124]⟩ = (match o with | .or => true | _ => false) := by cases o <;> kernel_rfl
theorem is_gt (o : Bop) : eqS o.str ⟨#[62]⟩ = (match o with | .gt => true | _ => false) := by cases o <;> kernel_rfl
theorem is_ge (o : Bop) : eqS o.str ⟨#[62, 61]⟩ = (match o with | .ge => true | _ => false) := by cases o <;> kernel_rfl
theorem is_ne (o : Bop) : eqS o.str ⟨#[33, 61]⟩ = (match o with | .ne => true | _ => false) := by cases o <;> kernel_rfl
theorem val_and (hw : ws.length = 48) {f : Bool} (iha : ValZ vs ws a) (ihb : ValZ vs ws b) : ValZ vs ws (.bin f .and a b) := by
 intro l lv τ n c hL h1 h2
 simp only [size_bin] at h1
 have ra := cE_rng vs ws a
 have w := wrap64 (n - 1) (by omega)
 have c49 := cut49 hw lv n c
 have p49 := put49 hw lv n c
 have za := iha l lv τ (n - 1) c hL (by omega) (by omega)
 have zb := ihb l lv τ (n - 1 - cE vs ws a) c hL (by omega) (by omega)
 have s1 := is_and .and
 have s2 := is_or .and
 simp only [Bop.str] at s1 s2
 have hc1 : n - 1 - cE vs ws a = n - (cE vs ws a + 1) := by omega
 have hc2 : n - (cE vs ws a + 1) - cE vs ws b = n - (cE vs ws a + cE vs ws b + 1) := by omega
 rw [hc1] at za zb
 rw [hc2] at zb
 refine Z_call (pf := F212) rfl rfl ?_
 by_cases hz : vE vs ws a = 0
 · cases hL <;> simp [F212, Bop.str, s1, s2, w, c49, p49, stL_length hw, sliceAddr, za, hz, vE, cE, List.range_succ]
 · cases hL <;> simp [F212, Bop.str, s1, s2, w, c49, p49, stL_length hw, sliceAddr, za, zb, hz, vE, cE, List.range_succ]
theorem val_or (hw : ws.length = 48) {f : Bool} (iha : ValZ vs ws a) (ihb : ValZ vs ws b) : ValZ vs ws (.bin f .or a b) := by
 intro l lv τ n c hL h1 h2
 simp only [size_bin] at h1
 have ra := cE_rng vs ws a
 have w := wrap64 (n - 1) (by omega)
 have c49 := cut49 hw lv n c
 have p49 := put49 hw lv n c
 have za := iha l lv τ (n - 1) c hL (by omega) (by omega)
 have zb := ihb l lv τ (n - 1 - cE vs ws a) c hL (by omega) (by omega)
 have s1 := is_and .or
 have s2 := is_or .or
 simp only [Bop.str] at s1 s2
 have hc1 : n - 1 - cE vs ws a = n - (cE vs ws a + 1) := by omega
 have hc2 : n - (cE vs ws a + 1) - cE vs ws b = n - (cE vs ws a + cE vs ws b + 1) := by omega
 rw [hc1] at za zb
 rw [hc2] at zb
 refine Z_call (pf := F212) rfl rfl ?_
 by_cases hz : vE vs ws a = 0
 · cases hL <;> simp [F212, Bop.str, s1, s2, w, c49, p49, stL_length hw, sliceAddr, za, zb, hz, vE, cE, List.range_succ]
 · cases hL <;> simp [F212, Bop.str, s1, s2, w, c49, p49, stL_length hw, sliceAddr, za, hz, vE, cE, List.range_succ]
theorem val_ar (hw : ws.length = 48) (hb : ∀ x ∈ ws, Bd x) {f : Bool} (o : Bop) (fa : a.fine) (fb : b.fine) (iha : ValZ vs ws a) (ihb : ValZ vs ws b) (k1 : o ≠ .and) (k2 : o ≠ .or) (k3 : o ≠ .gt) (k4 : o ≠ .ge) (k5 : o ≠ .ne)
   (hv : vE vs ws (.bin f o a b) = calcI (opI o) (vE vs ws a) (vE vs ws b)) (hc : cE vs ws (.bin f o a b) = cE vs ws a + cE vs ws b + 1) : ValZ vs ws (.bin f o a b) := by
 intro l lv τ n c hL h1 h2
 simp only [size_bin] at h1
 rw [hv, hc]
 have ra := cE_rng vs ws a
 have w := wrap64 (n - 1) (by omega)
 have c49 := cut49 hw lv n c
 have p49 := put49 hw lv n c
 have za := iha l lv τ (n - 1) c hL (by omega) (by omega)
 have zb := ihb l lv τ (n - 1 - cE vs ws a) c hL (by omega) (by omega)
 have s1 : eqS o.str ⟨#[38, 38]⟩ = false := by rw [is_and]; cases o <;> simp_all
 have s2 : eqS o.str ⟨#[124, 124]⟩ = false := by rw [is_or]; cases o <;> simp_all
 have s3 : eqS o.str ⟨#[62]⟩ = false := by rw [is_gt]; cases o <;> simp_all
 have s4 : eqS o.str ⟨#[62, 61]⟩ = false := by rw [is_ge]; cases o <;> simp_all
 have s5 : eqS o.str ⟨#[33, 61]⟩ = false := by rw [is_ne]; cases o <;> simp_all
 have zo := upZ (operator_Z o k1 k2)
 have zc := calc_Z (opI o) (vE_bd (vs := vs) hb a fa) (vE_bd (vs := vs) hb b fb)
 have hc1 : n - 1 - cE vs ws a - cE vs ws b = n - (cE vs ws a + cE vs ws b + 1) := by omega
 rw [hc1] at zb
 generalize vE vs ws a = va at *
 generalize vE vs ws b = vb at *
 generalize n - (cE vs ws a + cE vs ws b + 1) = n' at *
 generalize n - 1 - cE vs ws a = n1 at *
 refine Z_call (pf := F212) rfl rfl ?_
 cases hL <;> simp [F212, s1, s2, s3, s4, s5, w, c49, p49, stL_length hw, sliceAddr, za, zb, zo, zc, List.range_succ]
theorem val_cmp (hw : ws.length = 48) (hb : ∀ x ∈ ws, Bd x) {f : Bool} (o : Bop) (fa : a.fine) (fb : b.fine) (iha : ValZ vs ws a) (ihb : ValZ vs ws b) (ho : o = .gt \/ o = .ge) : ValZ vs ws (.bin f o a b) := by
 intro l lv τ n c hL h1 h2
 simp only [size_bin] at h1
 have hv : vE vs ws (.bin f o a b) = calcI (opI o) (vE vs ws b) (vE vs ws a) := by rcases ho with rfl | rfl <;> rfl
 have hc : cE vs ws (.bin f o a b) = cE vs ws a + cE vs ws b + 1 := by rcases ho with rfl | rfl <;> rfl
 rw [hv, hc]
 have ra := cE_rng vs ws a
 have w := wrap64 (n - 1) (by omega)
 have c49 := cut49 hw lv n c
 have p49 := put49 hw lv n c
 have za := iha l lv τ (n - 1) c hL (by omega) (by omega)
 have zb := ihb l lv τ (n - 1 - cE vs ws a) c hL (by omega) (by omega)
 have s1 : eqS o.str ⟨#[38, 38]⟩ = false := by rw [is_and]; rcases ho with rfl | rfl <;> rfl
 have s2 : eqS o.str ⟨#[124, 124]⟩ = false := by rw [is_or]; rcases ho with rfl | rfl <;> rfl
 have zo := upZ (operator_Z o (by rcases ho with rfl | rfl <;> simp) (by rcases ho with rfl | rfl <;> simp))
 have zc := calc_Z (opI o) (vE_bd (vs := vs) hb b fb) (vE_bd (vs := vs) hb a fa)
 have hc1 : n - 1 - cE vs ws a - cE vs ws b = n - (cE vs ws a + cE vs ws b + 1) := by omega
 rw [hc1] at zb
 generalize vE vs ws a = va at *
 generalize vE vs ws b = vb at *
 generalize n - (cE vs ws a + cE vs ws b + 1) = n' at *
 generalize n - 1 - cE vs ws a = n1 at *
 refine Z_call (pf := F212) rfl rfl ?_
 rcases ho with rfl | rfl
 · have s3 : eqS ⟨#[62]⟩ ⟨#[62]⟩ = true := by kernel_rfl
   simp only [Bop.str] at s1 s2 zo
   cases hL <;> simp [F212, Bop.str, s1, s2, s3, w, c49, p49, stL_length hw, sliceAddr, za, zb, zo, zc, List.range_succ]
 · have s3 : eqS ⟨#[62, 61]⟩ ⟨#[62]⟩ = false := by kernel_rfl
   have s4 : eqS ⟨#[62, 61]⟩ ⟨#[62, 61]⟩ = true := by kernel_rfl
   simp only [Bop.str] at s1 s2 zo
   cases hL <;> simp [F212, Bop.str, s1, s2, s3, s4, w, c49, p49, stL_length hw, sliceAddr, za, zb, zo, zc, List.range_succ]
theorem val_ne (hw : ws.length = 48) (hb : ∀ x ∈ ws, Bd x) {f : Bool} (fa : a.fine) (fb : b.fine) (iha : ValZ vs ws a) (ihb : ValZ vs ws b) : ValZ vs ws (.bin f .ne a b) := by
 intro l lv τ n c hL h1 h2
 simp only [size_bin] at h1
 simp only [vE, cE]
 have ra := cE_rng vs ws a
 have w := wrap64 (n - 1) (by omega)
 have c49 := cut49 hw lv n c
 have p49 := put49 hw lv n c
 have za := iha l lv τ (n - 1) c hL (by omega) (by omega)
 have zb := ihb l lv τ (n - 1 - cE vs ws a) c hL (by omega) (by omega)
 have s1 := is_and .ne
 have s2 := is_or .ne
 have s3 := is_gt .ne
 have s4 := is_ge .ne
 have s5 := is_ne .ne
 simp only [Bop.str] at s1 s2 s3 s4 s5
 have zo := upZ (operator_Z .ne (by simp) (by simp))
 simp only [Bop.str, opI] at zo
 have zc := calc_Z 16 (vE_bd (vs := vs) hb a fa) (vE_bd (vs := vs) hb b fb)
 have cb : 0 <= calcI 16 (vE vs ws a) (vE vs ws b) /\ calcI 16 (vE vs ws a) (vE vs ws b) <= 1 := tr_rng _
 have w2 := wrap64 (1 - calcI 16 (vE vs ws a) (vE vs ws b)) (by omega)
 have hc1 : n - 1 - cE vs ws a - cE vs ws b = n - (cE vs ws a + cE vs ws b + 1) := by omega
 rw [hc1] at zb
 generalize calcI 16 (vE vs ws a) (vE vs ws b) = vc at *
 generalize vE vs ws a = va at *
 generalize vE vs ws b = vb at *
 generalize n - (cE vs ws a + cE vs ws b + 1) = n' at *
 generalize n - 1 - cE vs ws a = n1 at *
 refine Z_call (pf := F212) rfl rfl ?_
 cases hL <;> simp [F212, Bop.str, s1, s2, s3, s4, s5, w, w2, c49, p49, stL_length hw, sliceAddr, za, zb, zo, zc, List.range_succ]
theorem val_Z (hw : ws.length = 48) (hb : ∀ x ∈ ws, Bd x) (hv : vs.length <= 16) : ∀ e : E, e.fine -> e.inV vs -> ValZ vs ws e
 | .int k, _, _ => val_int hw k
 | .bool k, _, _ => val_bool hw k
 | .var s, _, h => val_var hw hv h
 | .name s, _, _ => val_name hw
 | .field f s e, g, h => val_field hw hb g.1 g.2.1 (val_Z hw hb hv e g.2.1 h)
 | .un f true e, g, h => val_neg hw hb g.1 (val_Z hw hb hv e g.1 h)
 | .un f false e, g, h => val_not hw hb g.1 (val_Z hw hb hv e g.1 h)
 | .bin f o a b, g, h => by
   have ha := val_Z hw hb hv a g.1 h.1
   have hb' := val_Z hw hb hv b g.2.1 h.2
   cases o
   case and => exact val_and hw ha hb'
   case or => exact val_or hw ha hb'
   case gt => exact val_cmp hw hb _ g.1 g.2.1 ha hb' (.inl rfl)
   case ge => exact val_cmp hw hb _ g.1 g.2.1 ha hb' (.inr rfl)
   case ne => exact val_ne hw hb g.1 g.2.1 ha hb'
   all_goals exact val_ar hw hb _ g.1 g.2.1 ha hb' (by simp) (by simp) (by simp) (by simp) (by simp) rfl rfl
end
end Go.Pm
end SRc
section SRd
namespace Go.Pm
open F Gr
set_option maxHeartbeats 1000000
def stW (ws : List Int) (body field v : Int) : List Int := if 0 <= body /\ body <= 3 then ws.set (16 + (8 * body + field).toNat) v else ws
theorem stW_length (ws : List Int) (body field v : Int) : (stW ws body field v).length = ws.length := by unfold stW; split <;> simp
theorem set_bd {ws : List Int} (h : ∀ x ∈ ws, Bd x) {v : Int} (hv : Bd v) (i : Nat) : ∀ x ∈ ws.set i v, Bd x := by
 intro x hx
 rcases List.mem_or_eq_of_mem_set hx with h' | h'
 · exact h x h'
 · rw [h']; exact hv
theorem stW_bd {ws : List Int} (h : ∀ x ∈ ws, Bd x) {body field v : Int} (hv : Bd v) : ∀ x ∈ stW ws body field v, Bd x := by
 unfold stW; split
 · exact set_bd h hv _
 · exact h
def stS (ws l : List Int) (n : Int) (c : Bool) : S := match l with
 | [] => [.cells (stL ws (.dat (.lit (.slice none 0 0))) n c)]
 | x :: r => [.cells (stL ws (.own 1 (r.length + 1) 1) n c), .vec (ints (x :: r))]
theorem stS_of {l : List Int} {lv : V} {τ : S} (h : Lg l lv τ) (ws : List Int) (n : Int) (c : Bool) : stS ws l n c = .cells (stL ws lv n c) :: τ := by
 cases h with
 | nil => rfl
 | own _ h => cases l with
   | nil => exact absurd rfl h
   | cons x r => rfl
theorem lg_ex (l : List Int) : ∃ lv τ, Lg l lv τ := by
 cases l with
 | nil => exact ⟨_, _, .nil⟩
 | cons x r => exact ⟨_, _, .own _ (by simp)⟩
theorem stS_cons (ws : List Int) {l : List Int} (h : l ≠ []) (n : Int) (c : Bool) : stS ws l n c = [.cells (stL ws (.own 1 l.length 1) n c), .vec (ints l)] := stS_of (.own l h) ws n c
section
variable {ws l : List Int} {lv : V} {τ : S}
theorem store_Z (hw : ws.length = 48) (hL : Lg l lv τ) (hl : l.length <= 2^40) (n : Int) (c : Bool) {v f x : Int} (hv : Bd v) (hf : 0 <= f /\ f <= 7) :
   Z prog15z (.call 213 [.ptr 0 0, .int v, .int f, .int x] (.cells (stL ws lv n c) :: τ)) = some (.ret (.tup []) [.cells (stL (stW ws v f x) (.own 1 (l.length + 4) 1) n c), .vec (ints (l ++ [1, v, f, x]))]) := by
 have r0 : roomFor 4 8 = true := by decide
 have r1 : roomFor (l.length + 4) 8 = true := by simp [roomFor]; omega
 have c48 := cut48 hw lv n c
 have p48 := put48 hw lv n c
 refine Z_call (pf := F213) rfl rfl ?_
 unfold stW
 by_cases h : 0 <= v /\ v <= 3
 · have w1 := wrap64 (8 * v) (by omega)
   have w2 := wrap64 (8 * v + f) (by omega)
   have h3 : 0 <= 8 * v + f := by omega
   have h4 : 8 * v + f < 32 := by omega
   have h5 : 16 + (8 * v + f).toNat + 1 <= 51 := by omega
   have pw := fun lv => putW hw lv n c (i := 16 + (8 * v + f).toNat) (by omega) x
   rw [if_pos h]
   cases hL with
   | nil => simp [F213, h.1, h.2, h3, h4, h5, w1, w2, c48, p48, r0, pw, stL_length hw, ints, Value.oneCell', List.range_succ]
   | own =>
     have i4 : ints l ++ [V.int 1, V.int v, V.int f, V.int x] = ints (l ++ [1, v, f, x]) := by simp [ints]
     simp [F213, h.1, h.2, h3, h4, h5, w1, w2, c48, p48, r1, pw, stL_length hw, i4, Value.oneCell', List.range_succ]
 · rw [if_neg h]
   by_cases h1 : 0 <= v
   · have h2 : ¬ v <= 3 := by omega
     cases hL with
     | nil => simp [F213, h1, h2, c48, p48, r0, stL_length hw, ints, Value.oneCell', List.range_succ]
     | own =>
       have i4 : ints l ++ [V.int 1, V.int v, V.int f, V.int x] = ints (l ++ [1, v, f, x]) := by simp [ints]
       simp [F213, h1, h2, c48, p48, r1, stL_length hw, i4, Value.oneCell', List.range_succ]
   · cases hL with
     | nil => simp [F213, h1, c48, p48, r0, stL_length hw, ints, Value.oneCell', List.range_succ]
     | own =>
       have i4 : ints l ++ [V.int 1, V.int v, V.int f, V.int x] = ints (l ++ [1, v, f, x]) := by simp [ints]
       simp [F213, h1, c48, p48, r1, stL_length hw, i4, Value.oneCell', List.range_succ]
end
end Go.Pm
end SRd
section SRe
namespace Go.Pm
open F Gr
structure RS where
 ws : List Int
 l : List Int
 n : Int
 c : Bool
abbrev RS.s (st : RS) : S := stS st.ws st.l st.n st.c
def Ss.tl : Ss -> Ss
 | .nil => .nil
 | .assign _ _ _ r => r
 | .store _ _ _ _ r => r
 | .effect _ _ _ r => r
 | .stop r => r
 | .cond _ _ _ _ r => r
 | .block _ _ r => r
def RS.on (st : RS) : Prop := st.c = false /\ 1 <= st.n
inductive Mo where
 | one | row | lp
inductive Dx (vs : List ByteArray) : Mo -> RS -> Ss -> RS -> Prop
 | off {st : RS} {s : Ss} : ¬ st.on -> Dx vs .one st s { st with n := st.n - 1 }
 | assign {st : RS} {f : Bool} {s : ByteArray} {e : E} {r : Ss} : st.on -> Dx vs .one st (.assign f s e r) { st with ws := st.ws.set (ixI vs s).toNat (vE vs st.ws e), n := st.n - 1 - cE vs st.ws e }
 | store {st : RS} {f : Bool} {s : ByteArray} {a b : E} {r : Ss} : st.on -> Dx vs .one st (.store f s a b r)
     { st with ws := stW st.ws (vE vs st.ws a) (fieldI s) (vE vs st.ws b), l := st.l ++ [1, vE vs st.ws a, fieldI s, vE vs st.ws b], n := st.n - 1 - cE vs st.ws a - cE vs st.ws b }
 | effect {st : RS} {f : Bool} {a b : E} {r : Ss} : st.on -> Dx vs .one st (.effect f a b r)
     { st with l := st.l ++ [2, vE vs st.ws a, vE vs st.ws b, 0], n := st.n - 1 - cE vs st.ws a - cE vs st.ws b }
 | stop {st : RS} {r : Ss} : st.on -> Dx vs .one st (.stop r) { st with n := st.n - 1, c := true }
 | ift {st st' : RS} {f : Bool} {c : E} {b r : Ss} : st.on -> vE vs st.ws c ≠ 0 -> Dx vs .one { st with n := st.n - 1 - cE vs st.ws c } b st' -> Dx vs .one st (.cond false f c b r) st'
 | iff {st st' : RS} {f : Bool} {c : E} {b r : Ss} : st.on -> vE vs st.ws c = 0 -> Dx vs .one { st with n := st.n - 1 - cE vs st.ws c } b.tl st' -> Dx vs .one st (.cond false f c b r) st'
 | whl {st st' : RS} {f : Bool} {c : E} {b r : Ss} : st.on -> Dx vs .lp { st with n := st.n - 1 } (.cond true f c b r) st' -> Dx vs .one st (.cond true f c b r) st'
 | block {st st' : RS} {f : Bool} {b r : Ss} : st.on -> Dx vs .row { st with n := st.n - 1 } b st' -> Dx vs .one st (.block f b r) st'
 | nil {st : RS} : Dx vs .row st .nil st
 | cons {st st1 st2 : RS} {s : Ss} : s ≠ .nil -> Dx vs .one st s st1 -> Dx vs .row st1 s.tl st2 -> Dx vs .row st s st2
 | lpe {st : RS} {s : Ss} : ¬ st.on -> Dx vs .lp st s st
 | lpo {st : RS} {w f : Bool} {c : E} {b r : Ss} : st.on -> vE vs st.ws c = 0 -> Dx vs .lp st (.cond w f c b r) { st with n := st.n - cE vs st.ws c }
 | lpg {st st1 st' : RS} {w f : Bool} {c : E} {b r : Ss} : st.on -> vE vs st.ws c ≠ 0 -> Dx vs .one { st with n := st.n - cE vs st.ws c } b st1 -> Dx vs .lp st1 (.cond w f c b r) st' -> Dx vs .lp st (.cond w f c b r) st'
structure RS.ok (st : RS) : Prop where
 len : st.ws.length = 48
 bd : ∀ x ∈ st.ws, Bd x
 lo : -(2^40) <= st.n
 hi : st.n <= 2^30
 log : st.l.length + 4 * st.n <= 2^32
structure RS.to (st st' : RS) (k : Nat) : Prop where
 ok : st'.ws.length = 48
 bd : ∀ x ∈ st'.ws, Bd x
 lo : min st.n 0 - k <= st'.n
 hi : st'.n <= st.n
 log : st'.l.length + 4 * st'.n <= st.l.length + 4 * st.n
 grow : st.l ≠ [] -> st'.l ≠ []
theorem RS.to.next {a b : RS} {k : Nat} (h : a.to b k) (ha : a.ok) (hk : k + -(min a.n 0) <= 2^40) : b.ok where
 len := h.ok
 bd := h.bd
 lo := by have := h.lo; omega
 hi := by have := h.hi; have := ha.hi; omega
 log := by have := h.log; have := ha.log; omega
theorem RS.to.trans {a b c : RS} {j k m : Nat} (h : a.to b j) (g : b.to c k) (hm : j + k <= m) : a.to c m where
 ok := g.ok
 bd := g.bd
 lo := by have := h.lo; have := g.lo; omega
 hi := by have := h.hi; have := g.hi; omega
 log := by have := h.log; have := g.log; omega
 grow := fun x => g.grow (h.grow x)
end Go.Pm
end SRe
