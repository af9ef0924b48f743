/- Chapter 15: the reference's Code of all trees. Chapter 15: the reference's Code of statements and blocks. Chapter 15: the reference's Compile, first part: the code. -/
import Derived.Test.YtdnnjabacgpfdaaGreatDoorPmCa
import Derived.Test.YtdnnjabacgpfdaaGreatDoorPmG1
set_option linter.unusedSimpArgs false
set_option linter.unusedVariables false
section SCf
namespace Go.Pm
open F Gr
set_option maxHeartbeats 1000000
def lE (vs : List ByteArray) (e : E) : Nat := (codeE vs e 0).length
@[simp] theorem eqS_u33 : eqS ⟨#[33]⟩ ⟨#[45]⟩ = false := by kernel_rfl
@[simp] theorem eqS_u45 : eqS ⟨#[45]⟩ ⟨#[45]⟩ = true := by kernel_rfl
section
variable {vs : List ByteArray} (hv : vs.length < 2^40)
theorem ok_lit {x : V} {c : Cd} (h0 : c ≠ []) (h : ∀ p : Int, Z base15 (.call 135 [x, .dat (strD vs), .int p] []) = some (.ret (.dat (.sl (icC c) c.length true)) [])) : NodeOK vs x (fun _ => c) c.length :=
 ⟨fun _ => rfl, List.length_pos_iff.2 h0, fun p _ _ => ⟨_, _, .lit c h0, h p⟩⟩
include hv in
theorem ok_var (s : ByteArray) : NodeOK vs (E.var s).node (fun _ => [(2, ixI vs s)]) 1 :=
 ok_lit (c := [(2, ixI vs s)]) (by simp) fun p => by
   have z := index_Z hv s
   refine Z_call (pf := F135) rfl rfl ?_
   simp [F135, icC, z]
theorem ok_name (s : ByteArray) : NodeOK vs (E.name s).node (fun _ => [(nameI s, 0)]) 1 :=
 ok_lit (c := [(nameI s, 0)]) (by simp) fun p => by
   have z := name_Z s
   refine Z_call (pf := F135) rfl rfl ?_
   simp [F135, icC, z]
theorem ok_int (n : Int) : NodeOK vs (E.int n).node (fun _ => [(1, n)]) 1 :=
 ok_lit (c := [(1, n)]) (by simp) fun p => by
   refine Z_call (pf := F135) rfl rfl ?_
   simp [F135, icC]
theorem ok_bool (n : Int) : NodeOK vs (E.bool n).node (fun _ => [(1, n)]) 1 :=
 ok_lit (c := [(1, n)]) (by simp) fun p => by
   refine Z_call (pf := F135) rfl rfl ?_
   simp [F135, icC]
theorem seq1_Z {a : E} {A : Int -> Cd} {La : Nat} (f : Bool) (ha : NodeOK vs a.node A La) {p : Int} (hp : 0 <= p) (hq : p + 4 * La < 2^40) :
   Z base15 (.call 160 [.dat (.sl [.lit (.int .i64 a.kind), .lit (.int .i64 a.num), .lit (.string a.str), a.kids] 1 f), .dat (strD vs), .int p] []) =
     some (.ret (.gsl (icC (A p)) (A p).length 2 0) [.tip (icC (A p)).length]) := by
 obtain ⟨v, σ, h1, h2⟩ := sequence_Z (f := f) (N := 1) (RowOK.cons ha .nil) rfl (by omega) hp (by omega)
 have e : seqC [A] p = A p := by simp [seqC]
 rw [e] at h1
 obtain ⟨rfl, rfl⟩ := CodeV.of_out h1 (by rw [ha.1 p]; have := ha.2.1; omega)
 exact h2
theorem seq2f_Z {a b : E} {A B : Int -> Cd} {La Lb : Nat} (f : Bool) (ha : NodeOK vs a.node A La) (hb : NodeOK vs b.node B Lb) {p : Int} (hp : 0 <= p) (hq : p + 4 * (La + Lb : Nat) < 2^40) :
   Z base15 (.call 160 [.dat (.sl [.lit (.int .i64 a.kind), .lit (.int .i64 a.num), .lit (.string a.str), a.kids, .lit (.int .i64 b.kind), .lit (.int .i64 b.num), .lit (.string b.str), b.kids] 2 f), .dat (strD vs), .int p] []) =
     some (.ret (.gsl (icC (sq A B p)) (sq A B p).length 2 0) [.tip (icC (sq A B p)).length]) := by
 obtain ⟨v, σ, h1, h2⟩ := sequence_Z (f := f) (N := 2) (RowOK.cons ha (RowOK.cons hb .nil)) rfl (by omega) hp (by omega)
 have e : seqC [A, B] p = sq A B p := by simp [seqC, sq]
 rw [e] at h1
 obtain ⟨rfl, rfl⟩ := CodeV.of_out h1 (by simp only [sq, List.length_append, ha.1 p]; have := ha.2.1; omega)
 exact h2
theorem snC_ne {A : Int -> Cd} {i : Int × Int} {p : Int} : snC A i p ≠ [] := by simp [snC]
theorem ok_field (f : Bool) (s : ByteArray) {a : E} {A : Int -> Cd} {La : Nat} (ha : NodeOK vs a.node A La) : NodeOK vs (E.field f s a).node (snC A (4, fieldI s)) (La + 1) :=
 ⟨ln_sn ha.1, by omega, fun p hp hq => ⟨_, _, .gr _ snC_ne, by
   have z := seq1_Z f ha hp (by omega)
   have zf := field_Z s
   have l1 := ha.1 p
   have r1 := room16 (n := La + 1) (by omega)
   simp only [snC]
   refine Z_call (pf := F135) rfl rfl ?_
   generalize A p = c at *
   simp [F135, z, zf, appendV, srcV, l1, r1, icC_append, icC_cons, icC_nil] <;> omega⟩⟩
theorem ok_un (f neg : Bool) {a : E} {A : Int -> Cd} {La : Nat} (ha : NodeOK vs a.node A La) : NodeOK vs (E.un f neg a).node (snC A (if neg then 13 else 17, 0)) (La + 1) :=
 ⟨ln_sn ha.1, by omega, fun p hp hq => ⟨_, _, .gr _ snC_ne, by
   have z := seq1_Z f ha hp (by omega)
   have l1 := ha.1 p
   have r1 := room16 (n := La + 1) (by omega)
   simp only [snC]
   refine Z_call (pf := F135) rfl rfl ?_
   generalize A p = c at *
   cases neg <;> simp [F135, z, appendV, srcV, l1, r1, icC_append, icC_cons, icC_nil, ustr] <;> omega⟩⟩
theorem ok_bin (f : Bool) (o : Bop) {a b : E} {A B : Int -> Cd} {La Lb : Nat} (ha : NodeOK vs a.node A La) (hb : NodeOK vs b.node B Lb) : ∃ L, NodeOK vs (E.bin f o a b).node (binC o A B) L := by
 obtain ⟨k, k1, k2, k3, k4⟩ := ln_bin (o := o) ha.1 hb.1
 have key : ∀ p : Int, 0 <= p -> p + 4 * (La + Lb + 1 : Nat) < 2^40 -> CodeV (.gsl (icC (binC o A B p)) (binC o A B p).length 2 0) [.tip (icC (binC o A B p)).length] (binC o A B p) /\ Z base15 (.call 135 [(E.bin f o a b).node, .dat (strD vs), .int p] []) = some (.ret (.gsl (icC (binC o A B p)) (binC o A B p).length 2 0) [.tip (icC (binC o A B p)).length]) := fun p hp hq => by
   have z := binary_Z f o ha hb hp hq
   have l1 := k1 p
   refine ⟨.gr _ (fun e => by rw [e] at l1; simp only [List.length_nil] at l1; omega), ?_⟩
   refine Z_call (pf := F135) rfl rfl ?_
   generalize binC o A B p = c at *
   simp only [E.node, kind_bin, num_bin, str_bin, kids_bin] at z
   simp [F135, z]
 exact ⟨k, k1, k4, fun p hp hq => ⟨_, _, key p hp (by omega)⟩⟩
end
end Go.Pm
end SCf
section SCg
namespace Go.Pm
open F Gr
set_option maxHeartbeats 1000000
section
variable {vs : List ByteArray}
theorem code_E (hv : vs.length < 2^40) : ∀ e : E, ∃ L, NodeOK vs e.node (codeE vs e) L
 | .int n => ⟨_, ok_int n⟩
 | .bool n => ⟨_, ok_bool n⟩
 | .var s => ⟨_, ok_var hv s⟩
 | .name s => ⟨_, ok_name s⟩
 | .field f s e => let ⟨_, h⟩ := code_E hv e; ⟨_, ok_field f s h⟩
 | .un f neg e => let ⟨_, h⟩ := code_E hv e; ⟨_, ok_un f neg h⟩
 | .bin f o a b => let ⟨_, h⟩ := code_E hv a; let ⟨_, g⟩ := code_E hv b; ok_bin f o h g
def partS (vs : List ByteArray) : Ss -> List (Int -> Cd)
 | .nil => []
 | .assign _ s e r => snC (codeE vs e) (3, ixI vs s) :: partS vs r
 | .store _ s a b r => snC (sq (codeE vs a) (codeE vs b)) (5, fieldI s) :: partS vs r
 | .effect _ a b r => snC (sq (codeE vs a) (codeE vs b)) (20, 0) :: partS vs r
 | .stop r => (fun _ => [(21, 0)]) :: partS vs r
 | .cond false _ c (.block _ x (.block _ y .nil)) r => brC (codeE vs c) (codeS vs x) (codeS vs y) :: partS vs r
 | .cond true _ c (.block _ x .nil) r => whC (codeE vs c) (codeS vs x) :: partS vs r
 | _ => []
theorem seq_part (b : Ss) (p : Int) : seqC (partS vs b) p = codeS vs b p := by
 fun_induction partS vs b generalizing p with
 | case1 => rfl
 | case2 _ _ _ _ ih => simp only [seqC, codeS, sq, ih]
 | case3 _ _ _ _ _ ih => simp only [seqC, codeS, sq, ih]
 | case4 _ _ _ _ ih => simp only [seqC, codeS, sq, ih]
 | case5 _ ih => simp only [seqC, codeS, sq, ih]
 | case6 _ _ _ _ _ _ _ ih => simp only [seqC, codeS, sq, ih]
 | case7 _ _ _ _ _ ih => simp only [seqC, codeS, sq, ih]
 | case8 b h1 h2 h3 h4 h5 h6 h7 =>
   unfold codeS
   split <;> first | rfl | (exfalso; first | exact h1 rfl | exact h2 _ _ _ _ rfl | exact h3 _ _ _ _ _ rfl | exact h4 _ _ _ _ rfl | exact h5 _ rfl | exact h6 _ _ _ _ _ _ _ rfl | exact h7 _ _ _ _ _ rfl)
theorem ok_assign (hv : vs.length < 2^40) (f : Bool) (s : ByteArray) {a : E} {A : Int -> Cd} {La : Nat} (ha : NodeOK vs a.node A La) : NodeOK vs (nd 1 0 s f (a.fo .nil)) (snC A (3, ixI vs s)) (La + 1) :=
 ⟨ln_sn ha.1, by omega, fun p hp hq => ⟨_, _, .gr _ snC_ne, by
   have z := seq1_Z f ha hp (by omega)
   have zf := index_Z hv s
   have l1 := ha.1 p
   have r1 := room16 (n := La + 1) (by omega)
   simp only [snC]
   refine Z_call (pf := F135) rfl rfl ?_
   generalize A p = c at *
   simp [F135, z, zf, appendV, srcV, l1, r1, icC_append, icC_cons, icC_nil] <;> omega⟩⟩
theorem ok_store (f : Bool) (s : ByteArray) {a b : E} {A B : Int -> Cd} {La Lb : Nat} (ha : NodeOK vs a.node A La) (hb : NodeOK vs b.node B Lb) : NodeOK vs (nd 2 0 s f (a.fo (b.fo .nil))) (snC (sq A B) (5, fieldI s)) (La + Lb + 1) :=
 ⟨ln_sn (ln_sq ha.1 hb.1), by omega, fun p hp hq => ⟨_, _, .gr _ snC_ne, by
   have z := seq2f_Z f ha hb hp (by omega)
   have zf := field_Z s
   have l1 : (sq A B p).length = La + Lb := ln_sq ha.1 hb.1 p
   have r1 := room16 (n := La + Lb + 1) (by omega)
   simp only [snC]
   refine Z_call (pf := F135) rfl rfl ?_
   generalize sq A B p = c at *
   simp [F135, z, zf, appendV, srcV, l1, r1, icC_append, icC_cons, icC_nil] <;> omega⟩⟩
theorem ok_effect (f : Bool) (s : ByteArray) {a b : E} {A B : Int -> Cd} {La Lb : Nat} (ha : NodeOK vs a.node A La) (hb : NodeOK vs b.node B Lb) : NodeOK vs (nd 5 0 s f (a.fo (b.fo .nil))) (snC (sq A B) (20, 0)) (La + Lb + 1) :=
 ⟨ln_sn (ln_sq ha.1 hb.1), by omega, fun p hp hq => ⟨_, _, .gr _ snC_ne, by
   have z := seq2f_Z f ha hb hp (by omega)
   have l1 : (sq A B p).length = La + Lb := ln_sq ha.1 hb.1 p
   have r1 := room16 (n := La + Lb + 1) (by omega)
   simp only [snC]
   refine Z_call (pf := F135) rfl rfl ?_
   generalize sq A B p = c at *
   simp [F135, z, appendV, srcV, l1, r1, icC_append, icC_cons, icC_nil] <;> omega⟩⟩
theorem ok_stop (f : Bool) (s : ByteArray) (n : Int) : NodeOK vs (nd 6 n s f .nil) (fun _ => [(21, 0)]) 1 :=
 ok_lit (c := [(21, 0)]) (by simp) fun p => by
   refine Z_call (pf := F135) rfl rfl ?_
   simp [F135, icC]
theorem blk_Z {cs : List D} {Cs : List (Int -> Cd)} {M : Nat} (h : RowOK vs cs Cs M) {N : Nat} (hN : Cs.length = N) (hN2 : N < 2^40) (n : Int) (s : ByteArray) (f : Bool) :
   BlkOK vs (.dat (.agg [.lit (.int .i64 7), .lit (.int .i64 n), .lit (.string s), kd f N cs])) (seqC Cs) M :=
 ⟨ln_seq h, fun p hp hb => by
   obtain ⟨v, σ, h1, h2⟩ := sequence_Z (f := f) h hN hN2 hp hb
   refine ⟨v, σ, h1.any, ?_⟩
   refine Z_call (pf := F135) rfl rfl ?_
   generalize seqC Cs p = c at *
   cases h1 <;> simp [F135, h2]⟩
theorem ok_if (f f1 f2 : Bool) {c : E} {x y : Fo} {C A B : Int -> Cd} {L La Lb : Nat} (hc : NodeOK vs c.node C L) (hx : BlkOK vs (nd 7 0 ⟨#[]⟩ f1 x) A La) (hy : BlkOK vs (nd 7 0 ⟨#[]⟩ f2 y) B Lb) :
   NodeOK vs (nd 3 0 ⟨#[]⟩ f (c.fo (.cons 7 0 ⟨#[]⟩ f1 x (.cons 7 0 ⟨#[]⟩ f2 y .nil)))) (brC C A B) (L + La + Lb + 2) :=
 ⟨ln_br hc.1 hx.1 hy.1, by omega, fun p hp hq => ⟨_, _, .gr _ (by unfold brC; simp), by
   have z := branch_Z (vs := vs) (k := c.kind) (n' := c.num) (s := c.str) (d := c.kids) (x := .sl [.lit (.int .i64 7), .lit (.int .i64 0), .lit (.string ⟨#[]⟩), kd f1 x.len x.cells] 1 false) (y := .sl [.lit (.int .i64 7), .lit (.int .i64 0), .lit (.string ⟨#[]⟩), kd f2 y.len y.cells] 1 false) (n := 0) (m := 0) (by simp) (by simp) hc (alt_node false 0 hx) (alt_node false 0 hy) hp (by omega)
   refine Z_call (pf := F135) rfl rfl ?_
   generalize brC C A B p = c0 at *
   simp [F135, sliceV, bound, sliceAddr, cutCells, z]⟩⟩
theorem ok_while (f f1 : Bool) {c : E} {x : Fo} {C A : Int -> Cd} {L La : Nat} (hc : NodeOK vs c.node C L) (hx : BlkOK vs (nd 7 0 ⟨#[]⟩ f1 x) A La) :
   NodeOK vs (nd 4 0 ⟨#[]⟩ f (c.fo (.cons 7 0 ⟨#[]⟩ f1 x .nil))) (whC C A) (L + La + 2) :=
 ⟨ln_wh hc.1 hx.1, by omega, fun p hp hq => ⟨_, _, .gr _ (by unfold whC; simp), by
   obtain ⟨v1, s1, k1, z1⟩ := hc.2.2 p hp (by omega)
   have l1 := hc.1 p
   have l0 := hc.2.1
   obtain ⟨v2, s2, k2, z2⟩ := hx.2 (p + (C p).length + 1) (by omega) (by omega)
   have l2 := hx.1 (p + (C p).length + 1)
   unfold whC
   generalize C p = c1 at *
   generalize A (p + c1.length + 1) = c2 at *
   have hc1 : ¬ c1.length = 0 := by omega
   have hc0 : ¬ c1 = [] := fun e => hc1 (by rw [e]; rfl)
   have w1 := wrap64 (p + c1.length) (by omega)
   have w2 := wrap64 (p + c1.length + 1) (by omega)
   have w3 := wrap64 (p + c1.length + 1 + c2.length) (by omega)
   have w4 := wrap64 (p + c1.length + 1 + c2.length + 1) (by omega)
   have r1 := room16 (n := c1.length + 1) (by omega)
   have r2 := room16 (n := c1.length + 1 + c2.length) (by omega)
   have r3 := room16 (n := c1.length + 1 + c2.length + 1) (by omega)
   have e1 : (c1.length + 1) * 2 = c1.length * 2 + 2 := by omega
   have e2 : (c1.length + 1 + c2.length) * 2 = c1.length * 2 + (c2.length * 2 + 1 + 1) := by omega
   refine Z_call (pf := F135) rfl rfl ?_
   cases k1 with
   | lit _ g1 =>
     cases k2 with
     | lit _ g2 => simp [F135, g1, g2, hc0, z1, z2, w1, w2, w3, w4, appendV, srcV, r1, r2, r3, e1, e2, len_sl, len_gsl, len_nil, icC_append, icC_cons, icC_nil, sliceAddr, cutCells] <;> omega
     | gr _ g2 => simp [F135, g1, g2, hc0, z1, z2, w1, w2, w3, w4, appendV, srcV, r1, r2, r3, e1, e2, len_sl, len_gsl, len_nil, icC_append, icC_cons, icC_nil, sliceAddr, cutCells] <;> omega
     | nil =>
       simp only [List.length_nil, show ((0 : Nat) : Int) = 0 from rfl, Int.add_zero, Nat.add_zero] at w3 w4 r2 r3 e2
       simp [F135, g1, hc0, z1, z2, w1, w2, w3, w4, appendV, srcV, r1, r2, r3, e1, e2, len_sl, len_gsl, len_nil, icC_append, icC_cons, icC_nil, sliceAddr, cutCells] <;> omega
   | gr _ g1 =>
     cases k2 with
     | lit _ g2 => simp [F135, g1, g2, hc0, z1, z2, w1, w2, w3, w4, appendV, srcV, r1, r2, r3, e1, e2, len_sl, len_gsl, len_nil, icC_append, icC_cons, icC_nil, sliceAddr, cutCells] <;> omega
     | gr _ g2 => simp [F135, g1, g2, hc0, z1, z2, w1, w2, w3, w4, appendV, srcV, r1, r2, r3, e1, e2, len_sl, len_gsl, len_nil, icC_append, icC_cons, icC_nil, sliceAddr, cutCells] <;> omega
     | nil =>
       simp only [List.length_nil, show ((0 : Nat) : Int) = 0 from rfl, Int.add_zero, Nat.add_zero] at w3 w4 r2 r3 e2
       simp [F135, g1, hc0, z1, z2, w1, w2, w3, w4, appendV, srcV, r1, r2, r3, e1, e2, len_sl, len_gsl, len_nil, icC_append, icC_cons, icC_nil, sliceAddr, cutCells] <;> omega⟩⟩
end
end Go.Pm
end SCg
section SCh
namespace Go.Pm
open F Gr
set_option maxHeartbeats 1000000
section
variable {vs : List ByteArray}
theorem row_S (hv : vs.length < 2^40) (b : Ss) (hf : b.fine) (hb : b.fo.size < 2^30) : ∃ M, RowOK vs b.fo.cells (partS vs b) M /\ (partS vs b).length = b.fo.len := by
 fun_induction Ss.fine b with
 | case1 => exact ⟨0, .nil, rfl⟩
 | case2 _ s e r ih =>
   simp only [Ss.fo, fo_size_cons] at hb
   obtain ⟨M, h, hl⟩ := ih hf.2 (by omega)
   obtain ⟨L, k⟩ := code_E hv e
   exact ⟨_, .cons (ok_assign hv _ s k) h, by simp [partS, Ss.fo, hl]⟩
 | case3 _ s a b r ih =>
   simp only [Ss.fo, fo_size_cons] at hb
   obtain ⟨M, h, hl⟩ := ih hf.2 (by omega)
   obtain ⟨L, k⟩ := code_E hv a
   obtain ⟨L', k'⟩ := code_E hv b
   exact ⟨_, .cons (ok_store _ s k k') h, by simp [partS, Ss.fo, hl]⟩
 | case4 _ a b r ih =>
   simp only [Ss.fo, fo_size_cons] at hb
   obtain ⟨M, h, hl⟩ := ih hf.2 (by omega)
   obtain ⟨L, k⟩ := code_E hv a
   obtain ⟨L', k'⟩ := code_E hv b
   exact ⟨_, .cons (ok_effect _ _ k k') h, by simp [partS, Ss.fo, hl]⟩
 | case5 r ih =>
   simp only [Ss.fo, fo_size_cons] at hb
   obtain ⟨M, h, hl⟩ := ih hf (by omega)
   exact ⟨_, .cons (ok_stop false _ 0) h, by simp [partS, Ss.fo, hl]⟩
 | case6 _ c _ x _ y r ih1 ih2 ih3 =>
   simp only [Ss.fo, fo_size_cons, fo_size] at hb
   obtain ⟨Mx, hx, hlx⟩ := ih1 hf.2.1 (by omega)
   obtain ⟨My, hy, hly⟩ := ih2 hf.2.2.1 (by omega)
   obtain ⟨M, h, hl⟩ := ih3 hf.2.2.2 (by omega)
   obtain ⟨L, k⟩ := code_E hv c
   have sx := fo_len_size x.fo
   have sy := fo_len_size y.fo
   have bx := blk_Z hx hlx (by omega) 0 ⟨#[]⟩
   have by_ := blk_Z hy hly (by omega) 0 ⟨#[]⟩
   rw [show seqC (partS vs x) = codeS vs x from funext (seq_part x)] at bx
   rw [show seqC (partS vs y) = codeS vs y from funext (seq_part y)] at by_
   exact ⟨_, .cons (ok_if _ _ _ k (bx _) (by_ _)) h, by simp [partS, Ss.fo, hl]⟩
 | case7 _ c _ x r ih1 ih2 =>
   simp only [Ss.fo, fo_size_cons, fo_size] at hb
   obtain ⟨Mx, hx, hlx⟩ := ih1 hf.2.1 (by omega)
   obtain ⟨M, h, hl⟩ := ih2 hf.2.2 (by omega)
   obtain ⟨L, k⟩ := code_E hv c
   have sx := fo_len_size x.fo
   have bx := blk_Z hx hlx (by omega) 0 ⟨#[]⟩
   rw [show seqC (partS vs x) = codeS vs x from funext (seq_part x)] at bx
   exact ⟨_, .cons (ok_while _ _ k (bx _)) h, by simp [partS, Ss.fo, hl]⟩
 | case8 => exact hf.elim
theorem code_S (hv : vs.length < 2^40) (b : Ss) (hf : b.fine) (hb : b.fo.size < 2^30) (f : Bool) : ∃ L, L <= 4 * b.fo.size /\ BlkOK vs (nd 7 0 ⟨#[]⟩ f b.fo) (codeS vs b) L := by
 obtain ⟨M, h, hl⟩ := row_S hv b hf hb
 have sb := fo_len_size b.fo
 have k := blk_Z h hl (by omega) 0 ⟨#[]⟩ f
 rw [show seqC (partS vs b) = codeS vs b from funext (seq_part b)] at k
 obtain ⟨n, hn, hn2⟩ := ln_S vs b
 have e : M = n := by rw [<- k.1 0, hn 0]
 exact ⟨M, by omega, k⟩
def hdC (vs : List ByteArray) : Hd -> Int -> Cd
 | .none => fun _ => []
 | .some _ b => snC (codeS vs b) (21, 0)
def entV : Hd -> Int -> Int
 | .none, _ => -1
 | .some _ _, p => p
abbrev cFr (vs : List ByteArray) (i : Int) : Fr := [(1, .ptr 0 0), (2, .ptr 1 0), (4, .dat (strD vs)), (5, .ptr 2 0), (6, .int i)]
abbrev zP : Ob := .cells [.dat (.lit (.slice none 0 0)), .int 0, .int 0, .int 0]
inductive CSt (R : Ob) (e0 e1 e2 : Int) : S -> Cd -> Prop
 | nil : CSt R e0 e1 e2 [R, zP, .cells [.dat (.lit (.slice none 0 0)), .int e0, .int e1, .int e2]] []
 | gr (c : Cd) (h : c ≠ []) : CSt R e0 e1 e2 [R, zP, .cells [.gsl (icC c) c.length 2 3, .int e0, .int e1, .int e2], .tip (icC c).length] c
theorem c_none0 {u v w : Nd} {e0 e1 e2 : Int} {σ : S} {c : Cd} (h : CSt (rbox Hd.none.nd v w) e0 e1 e2 σ c) : Z base15 (.loop 0 F122l0 (cFr vs 0) σ) = Z base15 (.loop 0 F122l0 (cFr vs 1) σ) := by
 have w1 := wrap64 1 (by omega)
 conv => lhs; rw [Z_loop_eq]
 cases h <;> simp [loopStep, run_F122l0, w1, Hd.k, Nd.d, cFr, rbox, zP, List.range_succ]
theorem c_some0 {u v w : Nd} {e0 e1 e2 : Int} {σ : S} {c : Cd} {f : Bool} {b : Ss} (h : CSt (rbox (Hd.some f b).nd v w) e0 e1 e2 σ c) {C : Int -> Cd} {L : Nat} (hb : BlkOK vs (nd 7 0 ⟨#[]⟩ f b.fo) C L) (hl : c.length + 4 * L + 10 < 2^30) :
   ∃ σ', CSt (rbox (Hd.some f b).nd v w) c.length e1 e2 σ' (c ++ snC C (21, 0) c.length) /\ Z base15 (.loop 0 F122l0 (cFr vs 0) σ) = Z base15 (.loop 0 F122l0 (cFr vs 1) σ') := by
 have w1 := wrap64 1 (by omega)
 obtain ⟨v, s, k, z⟩ := hb.2 c.length (by omega) (by omega)
 have hlc := hb.1 c.length
 refine ⟨_, .gr _ (by simp [snC]), ?_⟩
 simp only [snC]
 generalize hx : C c.length = x at *
 have r1 := room16 (n := c.length + x.length) (by omega)
 have r2 := room16 (n := c.length + x.length + 1) (by omega)
 have r3 := room16 (n := x.length) (by omega)
 have r4 := room16 (n := x.length + 1) (by omega)
 have r5 := room16 (n := c.length + 1) (by omega)
 have r6 := room16 (n := 1) (by omega)
 have q1 : (c.length + x.length) * 2 = c.length * 2 + x.length * 2 := by omega
 have q2 : (c.length + x.length + 1) * 2 = c.length * 2 + x.length * 2 + 2 := by omega
 conv => lhs; rw [Z_loop_eq]
 cases h with
 | nil =>
   cases k with
   | lit _ g =>
     simp at z
     simp [loopStep, run_F122l0, w1, Hd.k, Hd.f, Hd.ks, Nd.d, cFr, rbox, zP, z, g, appendV, srcV, r1, r2, r3, r4, r5, r6, q1, q2, icC_append, icC_cons, icC_nil, len_nil, len_sl, len_gsl, List.range_succ]
     try exact Z_loop_cong (by simp [List.range_succ, Nat.add_assoc])
   | gr _ g =>
     simp at z
     simp [loopStep, run_F122l0, w1, Hd.k, Hd.f, Hd.ks, Nd.d, cFr, rbox, zP, z, g, appendV, srcV, r1, r2, r3, r4, r5, r6, q1, q2, icC_append, icC_cons, icC_nil, len_nil, len_sl, len_gsl, List.range_succ]
     try exact Z_loop_cong (by simp [List.range_succ, Nat.add_assoc])
   | nil =>
     simp at z
     simp [loopStep, run_F122l0, w1, Hd.k, Hd.f, Hd.ks, Nd.d, cFr, rbox, zP, z, appendV, srcV, r1, r2, r3, r4, r5, r6, q1, q2, icC_append, icC_cons, icC_nil, len_nil, len_sl, len_gsl, List.range_succ]
     try exact Z_loop_cong (by simp [List.range_succ, Nat.add_assoc])
 | gr _ g0 =>
   have g1 : ¬ c.length = 0 := fun e => g0 (List.length_eq_zero_iff.1 e)
   cases k with
   | lit _ g =>
     simp [loopStep, run_F122l0, w1, Hd.k, Hd.f, Hd.ks, Nd.d, cFr, rbox, zP, z, g, g0, appendV, srcV, r1, r2, r3, r4, r5, r6, q1, q2, icC_append, icC_cons, icC_nil, len_nil, len_sl, len_gsl, List.range_succ]
     try exact Z_loop_cong (by simp [List.range_succ, Nat.add_assoc])
   | gr _ g =>
     simp [loopStep, run_F122l0, w1, Hd.k, Hd.f, Hd.ks, Nd.d, cFr, rbox, zP, z, g, g0, appendV, srcV, r1, r2, r3, r4, r5, r6, q1, q2, icC_append, icC_cons, icC_nil, len_nil, len_sl, len_gsl, List.range_succ]
     try exact Z_loop_cong (by simp [List.range_succ, Nat.add_assoc])
   | nil =>
     simp [loopStep, run_F122l0, w1, Hd.k, Hd.f, Hd.ks, Nd.d, cFr, rbox, zP, z, g0, appendV, srcV, r1, r2, r3, r4, r5, r6, q1, q2, icC_append, icC_cons, icC_nil, len_nil, len_sl, len_gsl, List.range_succ]
     try exact Z_loop_cong (by simp [List.range_succ, Nat.add_assoc])
theorem c_none1 {u v w : Nd} {e0 e1 e2 : Int} {σ : S} {c : Cd} (h : CSt (rbox u Hd.none.nd w) e0 e1 e2 σ c) : Z base15 (.loop 0 F122l0 (cFr vs 1) σ) = Z base15 (.loop 0 F122l0 (cFr vs 2) σ) := by
 have w1 := wrap64 2 (by omega)
 conv => lhs; rw [Z_loop_eq]
 cases h <;> simp [loopStep, run_F122l0, w1, Hd.k, Nd.d, cFr, rbox, zP, List.range_succ]
theorem c_some1 {u v w : Nd} {e0 e1 e2 : Int} {σ : S} {c : Cd} {f : Bool} {b : Ss} (h : CSt (rbox u (Hd.some f b).nd w) e0 e1 e2 σ c) {C : Int -> Cd} {L : Nat} (hb : BlkOK vs (nd 7 0 ⟨#[]⟩ f b.fo) C L) (hl : c.length + 4 * L + 10 < 2^30) :
   ∃ σ', CSt (rbox u (Hd.some f b).nd w) e0 c.length e2 σ' (c ++ snC C (21, 0) c.length) /\ Z base15 (.loop 0 F122l0 (cFr vs 1) σ) = Z base15 (.loop 0 F122l0 (cFr vs 2) σ') := by
 have w1 := wrap64 2 (by omega)
 obtain ⟨v, s, k, z⟩ := hb.2 c.length (by omega) (by omega)
 have hlc := hb.1 c.length
 refine ⟨_, .gr _ (by simp [snC]), ?_⟩
 simp only [snC]
 generalize hx : C c.length = x at *
 have r1 := room16 (n := c.length + x.length) (by omega)
 have r2 := room16 (n := c.length + x.length + 1) (by omega)
 have r3 := room16 (n := x.length) (by omega)
 have r4 := room16 (n := x.length + 1) (by omega)
 have r5 := room16 (n := c.length + 1) (by omega)
 have r6 := room16 (n := 1) (by omega)
 have q1 : (c.length + x.length) * 2 = c.length * 2 + x.length * 2 := by omega
 have q2 : (c.length + x.length + 1) * 2 = c.length * 2 + x.length * 2 + 2 := by omega
 conv => lhs; rw [Z_loop_eq]
 cases h with
 | nil =>
   cases k with
   | lit _ g =>
     simp at z
     simp [loopStep, run_F122l0, w1, Hd.k, Hd.f, Hd.ks, Nd.d, cFr, rbox, zP, z, g, appendV, srcV, r1, r2, r3, r4, r5, r6, q1, q2, icC_append, icC_cons, icC_nil, len_nil, len_sl, len_gsl, List.range_succ]
     try exact Z_loop_cong (by simp [List.range_succ, Nat.add_assoc])
   | gr _ g =>
     simp at z
     simp [loopStep, run_F122l0, w1, Hd.k, Hd.f, Hd.ks, Nd.d, cFr, rbox, zP, z, g, appendV, srcV, r1, r2, r3, r4, r5, r6, q1, q2, icC_append, icC_cons, icC_nil, len_nil, len_sl, len_gsl, List.range_succ]
     try exact Z_loop_cong (by simp [List.range_succ, Nat.add_assoc])
   | nil =>
     simp at z
     simp [loopStep, run_F122l0, w1, Hd.k, Hd.f, Hd.ks, Nd.d, cFr, rbox, zP, z, appendV, srcV, r1, r2, r3, r4, r5, r6, q1, q2, icC_append, icC_cons, icC_nil, len_nil, len_sl, len_gsl, List.range_succ]
     try exact Z_loop_cong (by simp [List.range_succ, Nat.add_assoc])
 | gr _ g0 =>
   have g1 : ¬ c.length = 0 := fun e => g0 (List.length_eq_zero_iff.1 e)
   cases k with
   | lit _ g =>
     simp [loopStep, run_F122l0, w1, Hd.k, Hd.f, Hd.ks, Nd.d, cFr, rbox, zP, z, g, g0, appendV, srcV, r1, r2, r3, r4, r5, r6, q1, q2, icC_append, icC_cons, icC_nil, len_nil, len_sl, len_gsl, List.range_succ]
     try exact Z_loop_cong (by simp [List.range_succ, Nat.add_assoc])
   | gr _ g =>
     simp [loopStep, run_F122l0, w1, Hd.k, Hd.f, Hd.ks, Nd.d, cFr, rbox, zP, z, g, g0, appendV, srcV, r1, r2, r3, r4, r5, r6, q1, q2, icC_append, icC_cons, icC_nil, len_nil, len_sl, len_gsl, List.range_succ]
     try exact Z_loop_cong (by simp [List.range_succ, Nat.add_assoc])
   | nil =>
     simp [loopStep, run_F122l0, w1, Hd.k, Hd.f, Hd.ks, Nd.d, cFr, rbox, zP, z, g0, appendV, srcV, r1, r2, r3, r4, r5, r6, q1, q2, icC_append, icC_cons, icC_nil, len_nil, len_sl, len_gsl, List.range_succ]
     try exact Z_loop_cong (by simp [List.range_succ, Nat.add_assoc])
theorem c_none2 {u v w : Nd} {e0 e1 e2 : Int} {σ : S} {c : Cd} (h : CSt (rbox u v Hd.none.nd) e0 e1 e2 σ c) : Z base15 (.loop 0 F122l0 (cFr vs 2) σ) = Z base15 (.loop 0 F122l0 (cFr vs 3) σ) := by
 have w1 := wrap64 3 (by omega)
 conv => lhs; rw [Z_loop_eq]
 cases h <;> simp [loopStep, run_F122l0, w1, Hd.k, Nd.d, cFr, rbox, zP, List.range_succ]
theorem c_some2 {u v w : Nd} {e0 e1 e2 : Int} {σ : S} {c : Cd} {f : Bool} {b : Ss} (h : CSt (rbox u v (Hd.some f b).nd) e0 e1 e2 σ c) {C : Int -> Cd} {L : Nat} (hb : BlkOK vs (nd 7 0 ⟨#[]⟩ f b.fo) C L) (hl : c.length + 4 * L + 10 < 2^30) :
   ∃ σ', CSt (rbox u v (Hd.some f b).nd) e0 e1 c.length σ' (c ++ snC C (21, 0) c.length) /\ Z base15 (.loop 0 F122l0 (cFr vs 2) σ) = Z base15 (.loop 0 F122l0 (cFr vs 3) σ') := by
 have w1 := wrap64 3 (by omega)
 obtain ⟨v, s, k, z⟩ := hb.2 c.length (by omega) (by omega)
 have hlc := hb.1 c.length
 refine ⟨_, .gr _ (by simp [snC]), ?_⟩
 simp only [snC]
 generalize hx : C c.length = x at *
 have r1 := room16 (n := c.length + x.length) (by omega)
 have r2 := room16 (n := c.length + x.length + 1) (by omega)
 have r3 := room16 (n := x.length) (by omega)
 have r4 := room16 (n := x.length + 1) (by omega)
 have r5 := room16 (n := c.length + 1) (by omega)
 have r6 := room16 (n := 1) (by omega)
 have q1 : (c.length + x.length) * 2 = c.length * 2 + x.length * 2 := by omega
 have q2 : (c.length + x.length + 1) * 2 = c.length * 2 + x.length * 2 + 2 := by omega
 conv => lhs; rw [Z_loop_eq]
 cases h with
 | nil =>
   cases k with
   | lit _ g =>
     simp at z
     simp [loopStep, run_F122l0, w1, Hd.k, Hd.f, Hd.ks, Nd.d, cFr, rbox, zP, z, g, appendV, srcV, r1, r2, r3, r4, r5, r6, q1, q2, icC_append, icC_cons, icC_nil, len_nil, len_sl, len_gsl, List.range_succ]
     try exact Z_loop_cong (by simp [List.range_succ, Nat.add_assoc])
   | gr _ g =>
     simp at z
     simp [loopStep, run_F122l0, w1, Hd.k, Hd.f, Hd.ks, Nd.d, cFr, rbox, zP, z, g, appendV, srcV, r1, r2, r3, r4, r5, r6, q1, q2, icC_append, icC_cons, icC_nil, len_nil, len_sl, len_gsl, List.range_succ]
     try exact Z_loop_cong (by simp [List.range_succ, Nat.add_assoc])
   | nil =>
     simp at z
     simp [loopStep, run_F122l0, w1, Hd.k, Hd.f, Hd.ks, Nd.d, cFr, rbox, zP, z, appendV, srcV, r1, r2, r3, r4, r5, r6, q1, q2, icC_append, icC_cons, icC_nil, len_nil, len_sl, len_gsl, List.range_succ]
     try exact Z_loop_cong (by simp [List.range_succ, Nat.add_assoc])
 | gr _ g0 =>
   have g1 : ¬ c.length = 0 := fun e => g0 (List.length_eq_zero_iff.1 e)
   cases k with
   | lit _ g =>
     simp [loopStep, run_F122l0, w1, Hd.k, Hd.f, Hd.ks, Nd.d, cFr, rbox, zP, z, g, g0, appendV, srcV, r1, r2, r3, r4, r5, r6, q1, q2, icC_append, icC_cons, icC_nil, len_nil, len_sl, len_gsl, List.range_succ]
     try exact Z_loop_cong (by simp [List.range_succ, Nat.add_assoc])
   | gr _ g =>
     simp [loopStep, run_F122l0, w1, Hd.k, Hd.f, Hd.ks, Nd.d, cFr, rbox, zP, z, g, g0, appendV, srcV, r1, r2, r3, r4, r5, r6, q1, q2, icC_append, icC_cons, icC_nil, len_nil, len_sl, len_gsl, List.range_succ]
     try exact Z_loop_cong (by simp [List.range_succ, Nat.add_assoc])
   | nil =>
     simp [loopStep, run_F122l0, w1, Hd.k, Hd.f, Hd.ks, Nd.d, cFr, rbox, zP, z, g0, appendV, srcV, r1, r2, r3, r4, r5, r6, q1, q2, icC_append, icC_cons, icC_nil, len_nil, len_sl, len_gsl, List.range_succ]
     try exact Z_loop_cong (by simp [List.range_succ, Nat.add_assoc])
end
end Go.Pm
end SCh
