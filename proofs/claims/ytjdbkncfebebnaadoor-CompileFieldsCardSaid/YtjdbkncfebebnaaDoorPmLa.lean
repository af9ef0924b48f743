/- Chapter 15's law of fields, plain: the two sources and their trees. Chapter 15's law of fields: the two sources' code is one. Chapter 15's law of fields: the walk. Printed by lc.py. Decimal, of reference 01. Chapter 15's law of fields: whole. -/
import Derived.Test.YtjdbkncfebebnaaDoorPmYg
import Derived.Test.YtjdbkncfebebnaaDoorPmJm
import Derived.Test.YtjdbkncfebebnaaDoorPmG5
import Derived.Test.YtjdbkncfebebnaaDoorPmDj
import Derived.Test.YtjdbkncfebebnaaDoorPmG1
import Derived.Test.YtjdbkncfebebnaaDoorPmTb14
import Derived.Test.YtjdbkncfebebnaaDoorPmN10
set_option linter.unusedSimpArgs false
set_option linter.unusedVariables false
section SLa
namespace Go.Pm
set_option maxHeartbeats 2000000
def fldS (f fi fb : Bool) (s : ByteArray) (x y : Int) (o : Bop) (p q : Int) : Ss := .store f s (.int x) (.field f s (.int y)) (.cond false fi (.bin f o (.int p) (.int q)) (.block fb (.stop .nil) (.block fb .nil .nil)) .nil)
def fldL (s dx dy op dp dq : ByteArray) : List (List UInt8 × ByteArray) := [([], onS), ([32], hitS), ([32], bs [123]), ([32], s), ([], bs [91]), ([], dx), ([], bs [93]), ([32], bs [61]), ([32], s), ([], bs [91]), ([], dy), ([], bs [93]), ([], bs [59]), ([32], ifS), ([32], dp), ([32], op), ([32], dq), ([32], bs [123]), ([32], stopS), ([], bs [59]), ([32], bs [125]), ([32], bs [125])]
theorem stor_tg {s : ByteArray} (h : s ∈ storL) : Tg (byl s) /\ s ∈ fieldNames /\ s.size <= 2 := by
 simp only [storL, List.mem_cons, List.not_mem_nil, or_false] at h
 rcases h with rfl | rfl | rfl | rfl | rfl | rfl <;> exact ⟨.inl ⟨_, _, rfl, by decide, by decide, by decide⟩, by decide, by decide⟩
theorem sep_sp {t u : ByteArray} : Sep t [32] u := .inl ⟨32, [], rfl, .inl rfl⟩
theorem sep_no {t u : ByteArray} (h : startsB wordB u = false) (h2 : (byl u).head? ≠ some 61) : Sep t [] u := .inr ⟨rfl, by rw [h, Bool.and_false], .inr h2⟩
theorem sep_no' {t u : ByteArray} (h : endsW false t = false) (h2 : t ≠ bs [60] /\ t ≠ bs [62] /\ t ≠ bs [61] /\ t ≠ bs [33]) : Sep t [] u := .inr ⟨rfl, by rw [h, Bool.false_and], .inl h2⟩
theorem white_sp : White [32] := white_one (.inl rfl)
theorem fld_ok {s dx dy op dp dq : ByteArray} (hs : Tg (byl s)) (hx : Tg (byl dx)) (hy : Tg (byl dy)) (ho : Tg (byl op)) (hp : Tg (byl dp)) (hq : Tg (byl dq)) : OkG (fldL s dx dy op dp dq) := by
 have s1 : ∀ t, Sep t [] (bs [91]) := fun t => sep_no (by decide) (by decide)
 have s2 : ∀ t, Sep t [] (bs [93]) := fun t => sep_no (by decide) (by decide)
 have s3 : ∀ t, Sep t [] (bs [59]) := fun t => sep_no (by decide) (by decide)
 have s4 : ∀ t, Sep (bs [91]) [] t := fun t => sep_no' (by decide) (by decide)
 have w := white_nil
 have w' := white_sp
 refine ⟨w, tg_word (c := 111) (by decide) (by decide) (by decide), ?_, ?_⟩
 · rintro p hp; cases hp; exact sep_sp
 refine ⟨w', tg_word (c := 104) (r := [105, 116]) (by decide) (by decide) (by decide), ?_, ?_⟩
 · rintro p hp; cases hp; exact sep_sp
 refine ⟨w', tg_sym (by decide), ?_, ?_⟩
 · rintro p hp; cases hp; exact sep_sp
 refine ⟨w', hs, ?_, ?_⟩
 · rintro p hp; cases hp; exact s1 _
 refine ⟨w, tg_sym (by decide), ?_, ?_⟩
 · rintro p hp; cases hp; exact s4 _
 refine ⟨w, hx, ?_, ?_⟩
 · rintro p hp; cases hp; exact s2 _
 refine ⟨w, tg_sym (by decide), ?_, ?_⟩
 · rintro p hp; cases hp; exact sep_sp
 refine ⟨w', tg_sym (by decide), ?_, ?_⟩
 · rintro p hp; cases hp; exact sep_sp
 refine ⟨w', hs, ?_, ?_⟩
 · rintro p hp; cases hp; exact s1 _
 refine ⟨w, tg_sym (by decide), ?_, ?_⟩
 · rintro p hp; cases hp; exact s4 _
 refine ⟨w, hy, ?_, ?_⟩
 · rintro p hp; cases hp; exact s2 _
 refine ⟨w, tg_sym (by decide), ?_, ?_⟩
 · rintro p hp; cases hp; exact s3 _
 refine ⟨w, tg_sym (by decide), ?_, ?_⟩
 · rintro p hp; cases hp; exact sep_sp
 refine ⟨w', tg_word (c := 105) (by decide) (by decide) (by decide), ?_, ?_⟩
 · rintro p hp; cases hp; exact sep_sp
 refine ⟨w', hp, ?_, ?_⟩
 · rintro p hp; cases hp; exact sep_sp
 refine ⟨w', ho, ?_, ?_⟩
 · rintro p hp; cases hp; exact sep_sp
 refine ⟨w', hq, ?_, ?_⟩
 · rintro p hp; cases hp; exact sep_sp
 refine ⟨w', tg_sym (by decide), ?_, ?_⟩
 · rintro p hp; cases hp; exact sep_sp
 refine ⟨w', tg_word (c := 115) (by decide) (by decide) (by decide), ?_, ?_⟩
 · rintro p hp; cases hp; exact s3 _
 refine ⟨w, tg_sym (by decide), ?_, ?_⟩
 · rintro p hp; cases hp; exact sep_sp
 refine ⟨w', tg_sym (by decide), ?_, ?_⟩
 · rintro p hp; cases hp; exact sep_sp
 exact ⟨w', tg_sym (by decide), fun p hp => (by cases hp), trivial⟩
def fldT (s dx dy ow dp dq : ByteArray) : ByteArray := ⟨#[111, 110, 32, 104, 105, 116, 32, 123, 32]⟩ ++ s ++ ⟨#[91]⟩ ++ dx ++ ⟨#[93, 32, 61, 32]⟩ ++ s ++ ⟨#[91]⟩ ++ dy ++ ⟨#[93, 59, 32, 105, 102, 32]⟩ ++ dp ++ ow ++ dq ++ ⟨#[32, 123, 32, 115, 116, 111, 112, 59, 32, 125, 32, 125]⟩
theorem byl_app (a b : ByteArray) : byl (a ++ b) = byl a ++ byl b := by
 simp [byl, ByteArray.toList_data_append]
theorem fldT_eq {s dx dy op ow dp dq : ByteArray} (h : byl ow = 32 :: (byl op ++ [32])) : byl (fldT s dx dy ow dp dq) = emitG (fldL s dx dy op dp dq) ++ [] := by
 unfold fldT
 simp only [byl_app, h]
 simp only [fldL, emitG, byl_bs, onS, hitS, ifS, stopS, show ∀ l : List UInt8, byl ⟨l.toArray⟩ = l from fun l => byl_bs l]
 simp [byl]
theorem fld_parse {s : ByteArray} (hs : s ∈ storL) {x y p q : Nat} (hx : x < 1000) (hy : y < 1000) (hp : p < 1000) (hq : q < 1000) {o : Bop} {ow : ByteArray} (ho : byl ow = 32 :: (byl o.str ++ [32])) (h3 : o.prec = 4) (f fi fb : Bool)
   (hz : ¬ 2000 < (fldT s (bs (decB x)) (bs (decB y)) ow (bs (decB p)) (bs (decB q))).size) :
   ∃ ts, parseV f fi fb (fldT s (bs (decB x)) (bs (decB y)) ow (bs (decB p)) (bs (decB q))) = .ok (fun k => if k = 2 then some (fldS f fi fb s x y o p q) else none) ts := by
 obtain ⟨t1, t2, t3⟩ := stor_tg hs
 have dt : ∀ n : Nat, n < 1000 -> Tg (byl (bs (decB n))) := fun n h => by rw [byl_bs]; exact decB_tg (by omega)
 obtain ⟨e, he⟩ := toks_emitG 12 2 6 (fld_ok t1 (dt x hx) (dt y hy) (tg_op o) (dt p hp) (dt q hq)) white_nil (.inl rfl) (fldT_eq ho)
 have hg : ∀ k, hdGood ((fun k => if k = 2 then some (fldS f fi fb s x y o p q) else none) k) := fun k => by
   intro b hb
   simp only at hb
   split at hb
   · cases hb
     refine ⟨⟨rfl, t2, ⟨by omega, by omega⟩, ⟨t2, by omega, by omega⟩, rfl, ⟨⟨by omega, by omega⟩, by omega, by omega⟩, ⟨1, rfl, ⟨rfl, .inl rfl⟩, 0, rfl, .inl rfl, .inr rfl⟩, .inl rfl⟩, ?_⟩
     simp [fldS, Ss.nest, E.nest, Bop.left, h3]
   · cases hb
 have htx : (fldL s (bs (decB x)) (bs (decB y)) o.str (bs (decB p)) (bs (decB q))).map (·.2) = progTx (fun k => if k = 2 then some (fldS f fi fb s x y o p q) else none) := by
   simp [fldL, progTx, hdTx, hnameS, fldS, Ss.tx, E.tx, Bop.left, h3, paren, elseB]
 rw [htx] at he
 clear htx dt
 generalize fldT s (bs (decB x)) (bs (decB y)) ow (bs (decB p)) (bs (decB q)) = T at *
 obtain ⟨n, hn⟩ := rbP (eS := 12) (eL := 2) (eD := 4) (f := f) (fi := fi) (fb := fb) hg he rfl
 have hv := parseV_some (f := f) (fi := fi) (fb := fb) hz
 refine ⟨[⟨e, ⟨#[]⟩, 0⟩], ?_⟩
 have h1 := progP_mono hv (Nat.le_max_left _ n)
 have h2 := progP_mono hn (Nat.le_max_right (10 * (toks (T)).length + 10) n)
 rw [show toks T = toksN 12 2 6 T (T.size + 1) 0 from rfl] at h1 h2
 rw [h1] at h2
 have h2' := Option.some.inj h2
 rw [h2']
 congr 1
 funext k
 by_cases hk : k = 2
 · subst hk; simp [fldS, Ss.fl, E.fl]
 · simp [hk]
end Go.Pm
end SLa
section SLb
namespace Go.Pm
open F Gr
set_option maxHeartbeats 4000000
def fldC (f x y : Int) : Cd := [(1, x), (1, y), (4, f), (5, f), (1, y), (1, x), (14, 0), (19, 10), (21, 0), (18, 10), (21, 0)]
theorem fld_code_gt (vs : List ByteArray) (f fi fb g : Bool) (s : ByteArray) (x y : Int) : progC vs .none .none (.some g (fldS f fi fb s x y .gt x y)) = fldC (fieldI s) x y := by
 simp [progC, sq, hdC, fldS, codeS, codeE, binC, brC, snC, fldC, opI]
theorem fld_code_lt (vs : List ByteArray) (f fi fb g : Bool) (s : ByteArray) (x y : Int) : progC vs .none .none (.some g (fldS f fi fb s x y .lt y x)) = fldC (fieldI s) x y := by
 simp [progC, sq, hdC, fldS, codeS, codeE, binC, brC, snC, fldC, opI]
def fldD : List Int := [0, 1, 2, 2, 0, 1, 2, 1, 0, 0, 0]
theorem lt11 {i : Nat} (h : i < 11) : i = 0 \/ i = 1 \/ i = 2 \/ i = 3 \/ i = 4 \/ i = 5 \/ i = 6 \/ i = 7 \/ i = 8 \/ i = 9 \/ i = 10 := by omega
theorem fld_dep (f x y : Int) : DepIs (fldC f x y) 0 2 := by
 refine ⟨fun h => by omega, fun _ D cf => ?_⟩
 rw [show (0 : Int).toNat = 0 from rfl] at cf ⊢
 have hD : ∀ i, Gr.Reach (fldC f x y) 0 i -> D i = fldD.getD i 0 := fun i h => by
   induction h with
   | here => exact cf.zero
   | @go i j h hi hj hl ih =>
     rw [cf.step i h j hj hl, ih]
     have hl' : j < 11 := hl
     clear ih h hl
     rcases lt11 hi with rfl | rfl | rfl | rfl | rfl | rfl | rfl | rfl | rfl | rfl | rfl <;> rcases lt11 hl' with rfl | rfl | rfl | rfl | rfl | rfl | rfl | rfl | rfl | rfl | rfl <;> first
       | (exfalso; simp [sucs, opA, nA, fldC] at hj; done)
       | simp [fldD, aft, opA, fldC, pushI, popI]
 refine ⟨by omega, fun i h => ?_, .inr ⟨1, ?_, ?_⟩⟩
 · have hl : i < 11 := Gr.Reach.lt (by simp [fldC]) h
   rw [hD i h]
   rcases lt11 hl with rfl | rfl | rfl | rfl | rfl | rfl | rfl | rfl | rfl | rfl | rfl <;> simp [fldD, aft, opA, fldC, pushI, popI]
 · exact .go .here (by simp [fldC]) (by simp [sucs, opA, fldC]) (by simp [fldC])
 · rw [hD 1 (.go .here (by simp [fldC]) (by simp [sucs, opA, fldC]) (by simp [fldC]))]
   simp [fldD, aft, opA, fldC, pushI, popI]
theorem fld_fine {f fi fb g : Bool} {s : ByteArray} (hs : s ∈ storL) {x y : Int} (hx : 0 <= x /\ x < 1000) (hy : 0 <= y /\ y < 1000) {p q : Int} (hp : 0 <= p /\ p < 1000) (hq : 0 <= q /\ q < 1000) {o : Bop} (ho : o = .lt \/ o = .gt) : (Hd.some g (fldS f fi fb s x y o p q)).fine := by
 have hsf : s ∈ fieldL := List.mem_append_left _ hs
 refine ⟨?_, ?_⟩
 · show (fldS f fi fb s x y o p q).fine
   rcases ho with rfl | rfl <;> exact ⟨⟨hs, ⟨by omega, by omega⟩, rfl, ⟨hsf, ⟨by omega, by omega⟩, rfl⟩, rfl⟩, ⟨⟨⟨by omega, by omega⟩, ⟨by omega, by omega⟩, rfl, rfl⟩, rfl⟩, trivial, trivial, trivial⟩
 · show (fldS f fi fb s x y o p q).fo.size <= 2000
   simp [fldS, Ss.fo, E.fo, Fo.size]
theorem fld_comp {f fi fb g : Bool} {s : ByteArray} (hs : s ∈ storL) {x y : Int} (hx : 0 <= x /\ x < 1000) (hy : 0 <= y /\ y < 1000) {p q : Int} {o : Bop} (h : o = .gt /\ p = x /\ q = y \/ o = .lt /\ p = y /\ q = x) :
   Z base15 (.call 131 [.dat (ru Hd.none.nd Hd.none.nd (Hd.some g (fldS f fi fb s x y o p q)).nd)] []) = some (.ret (.tup [pgD (codeD (fldC (fieldI s) x y)) (-1) (-1) 0, .int 0]) []) := by
 have fn : Hd.none.fine := ⟨trivial, Nat.zero_le _⟩
 have ff : (Hd.some g (fldS f fi fb s x y o p q)).fine := by
   rcases h with ⟨rfl, rfl, rfl⟩ | ⟨rfl, rfl, rfl⟩
   · exact fld_fine hs hx hy hx hy (.inr rfl)
   · exact fld_fine hs hx hy hy hx (.inl rfl)
 have hc : ∀ vs, progC vs .none .none (.some g (fldS f fi fb s x y o p q)) = fldC (fieldI s) x y := fun vs => by
   rcases h with ⟨rfl, rfl, rfl⟩ | ⟨rfl, rfl, rfl⟩
   · exact fld_code_gt ..
   · exact fld_code_lt ..
 have dn : ∀ C : Cd, DepIs C (-1) 0 := fun C => ⟨fun _ => rfl, fun h => by omega⟩
 have z := compile_Z fn fn ff (m0 := 0) (m1 := 0) (m2 := 2) (dn _) (dn _) (by rw [hc]; exact fld_dep _ _ _)
 rw [hc] at z
 rw [z]
 unfold compV
 rw [if_neg (by simp [fldC]), if_neg (by omega)]
 rfl
theorem same_loop (c : Cd) (hn : c ≠ []) (hl : c.length < 2 ^ 30) (e0 e1 e2 : Int) : ∀ m i, i + m = c.length -> ∃ ex, Z base15 (.loop 0 F133l0 [(2, .ptr 0 0), (3, .ptr 1 0), (5, .int i)] [.cells [.dat (codeD c), .int e0, .int e1, .int e2], .cells [.dat (codeD c), .int e0, .int e1, .int e2]]) = some (.out (.exit 0) ([(2, .ptr 0 0), (3, .ptr 1 0), (5, .int c.length)] ++ ex) [.cells [.dat (codeD c), .int e0, .int e1, .int e2], .cells [.dat (codeD c), .int e0, .int e1, .int e2]])
 | 0, i, h => by
   obtain rfl : i = c.length := by omega
   have hd := (codeD_is c).len
   refine ⟨[(24, .bool false)], ?_⟩
   rw [Z_loop_eq]
   simp [loopStep, run_F133l0, hd, List.range_succ]
 | m + 1, i, h => by
   obtain ⟨ex, z⟩ := same_loop c hn hl e0 e1 e2 m (i + 1) (by omega)
   refine ⟨ex, ?_⟩
   rw [<- z]
   have w1 := wrap64 ((i : Int) + 1) (by omega)
   have hi : (i : Int) < c.length := by omega
   have hd := codeD_ne hn
   have ha := (codeD_is c).at_ i (by omega) hi
   rw [hd] at ha
   have hc := cut2_icC c i (by omega)
   have e2 : (i : Int).toNat * 2 = i * 2 := by omega
   rw [e2] at ha
   conv => lhs; rw [Z_loop_eq]
   simp [loopStep, run_F133l0, hd, hi, ha, hc, w1, V.len, List.range_succ]
end Go.Pm
end SLb
section SLc
namespace Go.Pm
open F
set_option maxHeartbeats 8000000
theorem fld_walk {f x y : Int} {s dx dy : ByteArray} {a b F : Int} {n : Nat} {ic : List D} {d1 d2 cd : D} {P1 P2 P3 P4 P5 P6 P7 P8 P9 P10 P11 P12 P13 P14 P15 P16 : ByteArray}
  (e1 : (⟨#[111, 110, 32, 104, 105, 116, 32, 123, 32]⟩ : ByteArray) ++ s = P1) (z1 : ¬ (9223372036854775807 : Int) < ((⟨#[111, 110, 32, 104, 105, 116, 32, 123, 32]⟩ : ByteArray).size : Int) + s.size)
  (e2 : P1 ++ (⟨#[91]⟩ : ByteArray) = P2) (z2 : ¬ (9223372036854775807 : Int) < (P1.size : Int) + (⟨#[91]⟩ : ByteArray).size)
  (e3 : P2 ++ dx = P3) (z3 : ¬ (9223372036854775807 : Int) < (P2.size : Int) + dx.size)
  (e4 : P3 ++ (⟨#[93, 32, 61, 32]⟩ : ByteArray) = P4) (z4 : ¬ (9223372036854775807 : Int) < (P3.size : Int) + (⟨#[93, 32, 61, 32]⟩ : ByteArray).size)
  (e5 : P4 ++ s = P5) (z5 : ¬ (9223372036854775807 : Int) < (P4.size : Int) + s.size)
  (e6 : P5 ++ (⟨#[91]⟩ : ByteArray) = P6) (z6 : ¬ (9223372036854775807 : Int) < (P5.size : Int) + (⟨#[91]⟩ : ByteArray).size)
  (e7 : P6 ++ dy = P7) (z7 : ¬ (9223372036854775807 : Int) < (P6.size : Int) + dy.size)
  (e8 : P7 ++ (⟨#[93, 59, 32, 105, 102, 32]⟩ : ByteArray) = P8) (z8 : ¬ (9223372036854775807 : Int) < (P7.size : Int) + (⟨#[93, 59, 32, 105, 102, 32]⟩ : ByteArray).size)
  (e9 : P8 ++ dx = P9) (z9 : ¬ (9223372036854775807 : Int) < (P8.size : Int) + dx.size)
  (e10 : P9 ++ (⟨#[32, 62, 32]⟩ : ByteArray) = P10) (z10 : ¬ (9223372036854775807 : Int) < (P9.size : Int) + (⟨#[32, 62, 32]⟩ : ByteArray).size)
  (e11 : P10 ++ dy = P11) (z11 : ¬ (9223372036854775807 : Int) < (P10.size : Int) + dy.size)
  (e12 : P11 ++ (⟨#[32, 123, 32, 115, 116, 111, 112, 59, 32, 125, 32, 125]⟩ : ByteArray) = P12) (z12 : ¬ (9223372036854775807 : Int) < (P11.size : Int) + (⟨#[32, 123, 32, 115, 116, 111, 112, 59, 32, 125, 32, 125]⟩ : ByteArray).size)
  (e13 : P8 ++ dy = P13) (z13 : ¬ (9223372036854775807 : Int) < (P8.size : Int) + dy.size)
  (e14 : P13 ++ (⟨#[32, 60, 32]⟩ : ByteArray) = P14) (z14 : ¬ (9223372036854775807 : Int) < (P13.size : Int) + (⟨#[32, 60, 32]⟩ : ByteArray).size)
  (e15 : P14 ++ dx = P15) (z15 : ¬ (9223372036854775807 : Int) < (P14.size : Int) + dx.size)
  (e16 : P15 ++ (⟨#[32, 123, 32, 115, 116, 111, 112, 59, 32, 125, 32, 125]⟩ : ByteArray) = P16) (z16 : ¬ (9223372036854775807 : Int) < (P15.size : Int) + (⟨#[32, 123, 32, 115, 116, 111, 112, 59, 32, 125, 32, 125]⟩ : ByteArray).size)
  (zf : Z prog13d (.call 17 [.int f, .int 6] []) = some (.ret (.int (around f 6)) []))
  (zx : Z prog13d (.call 17 [.int x, .int 1000] []) = some (.ret (.int a) []))
  (zy : Z prog13d (.call 17 [.int y, .int 1000] []) = some (.ret (.int b) []))
  (zdx : Z prog13d (.call 20 [.int a] []) = some (.ret (.str dx) []))
  (zdy : Z prog13d (.call 20 [.int b] []) = some (.ret (.str dy) []))
  (hat : sliceAddr 1 (.dat (.sl (strC storL) 6 true)) (around f 6) = some (.dat (.imm (strC storL) (around f 6).toNat)))
  (hc : cutCells (strC storL) (around f 6).toNat 1 = some [.lit (.string s)])
  (p1 : Z prog13d (.call 132 [.str P12] []) = some (.ret (.tup [.dat (.agg [.lit (.int .i64 0), .lit (.int .i64 0), .lit (.string ⟨#[]⟩), .lit (.slice none 0 0), .lit (.int .i64 0), .lit (.int .i64 0), .lit (.string ⟨#[]⟩), .lit (.slice none 0 0), .lit (.int .i64 7), .lit (.int .i64 0), .lit (.string ⟨#[]⟩), d1]), .int 0, .int 0]) []))
  (p2 : Z prog13d (.call 132 [.str P16] []) = some (.ret (.tup [.dat (.agg [.lit (.int .i64 0), .lit (.int .i64 0), .lit (.string ⟨#[]⟩), .lit (.slice none 0 0), .lit (.int .i64 0), .lit (.int .i64 0), .lit (.string ⟨#[]⟩), .lit (.slice none 0 0), .lit (.int .i64 7), .lit (.int .i64 0), .lit (.string ⟨#[]⟩), d2]), .int 0, .int 0]) []))
  (o1 : V.one (.dat d1) = true) (o2 : V.one (.dat d2) = true) (c1 : V.cells (.dat d1) = [.dat d1]) (c2 : V.cells (.dat d2) = [.dat d2])
  (k1 : Z prog13d (.call 131 [.dat (.agg [.lit (.int .i64 0), .lit (.int .i64 0), .lit (.string ⟨#[]⟩), .lit (.slice none 0 0), .lit (.int .i64 0), .lit (.int .i64 0), .lit (.string ⟨#[]⟩), .lit (.slice none 0 0), .lit (.int .i64 7), .lit (.int .i64 0), .lit (.string ⟨#[]⟩), d1])] []) = some (.ret (.tup [.dat (.agg [cd, .lit (.int .i64 (-1)), .lit (.int .i64 (-1)), .lit (.int .i64 0)]), .int 0]) []))
  (k2 : Z prog13d (.call 131 [.dat (.agg [.lit (.int .i64 0), .lit (.int .i64 0), .lit (.string ⟨#[]⟩), .lit (.slice none 0 0), .lit (.int .i64 0), .lit (.int .i64 0), .lit (.string ⟨#[]⟩), .lit (.slice none 0 0), .lit (.int .i64 7), .lit (.int .i64 0), .lit (.string ⟨#[]⟩), d2])] []) = some (.ret (.tup [.dat (.agg [cd, .lit (.int .i64 (-1)), .lit (.int .i64 (-1)), .lit (.int .i64 0)]), .int 0]) []))
  (oc : V.one (.dat cd) = true) (cc : V.cells (.dat cd) = [.dat cd]) (hl : ∀ σ, V.len σ .sl (.dat cd) = some (n : Int)) (hn : ¬ (n : Int) < 4)
  (a2 : sliceAddr 2 (.dat cd) 2 = some (.dat (.imm ic 4))) (a3 : sliceAddr 2 (.dat cd) 3 = some (.dat (.imm ic 6)))
  (i2 : cutCells ic 4 2 = some [.lit (.int .i64 4), .lit (.int .i64 F)]) (i3 : cutCells ic 6 2 = some [.lit (.int .i64 5), .lit (.int .i64 F)])
  (same : Z prog13d (.call 133 [.dat (.agg [cd, .lit (.int .i64 (-1)), .lit (.int .i64 (-1)), .lit (.int .i64 0)]), .dat (.agg [cd, .lit (.int .i64 (-1)), .lit (.int .i64 (-1)), .lit (.int .i64 0)])] []) = some (.ret (.bool true) []))
  (zF : Z prog13d (.call 134 [.str s] []) = some (.ret (.int F) []))
  (lv : Z prog13d (.call 127 [] []) = some (.ret (.bool true) [])) :
  Z prog13d (.call 120 [.int f, .int x, .int y] []) = some (.ret (.bool true) []) := by
 simp only [storL, strC, List.map] at hat hc
 refine Z_call (pf := F120) rfl rfl ?_
 simp [F120, zf, zx, zy, zdx, zdy, hat, hc, e1, z1, e2, z2, e3, z3, e4, z4, e5, z5, e6, z6, e7, z7, e8, z8, e9, z9, e10, z10, e11, z11, e12, z12, e13, z13, e14, z14, e15, z15, e16, z16, p1, p2, o1, o2, c1, c2, k1, k2, oc, cc, hl, hn, a2, a3, i2, i3, same, zF, lv, calm, alone, runTr, calm2, stillI, still, V.same, List.range_succ]
end Go.Pm
end SLc
section SJr
namespace Go.Pm
open F
set_option maxHeartbeats 2000000
def digS : ByteArray := ⟨#[48, 49, 50, 51, 52, 53, 54, 55, 56, 57]⟩
theorem digS_at : ∀ d, d < 10 -> digS.extract d (d + 1) = bs [(48 + d).toUInt8] := by decide
theorem dec_loop (n : Int) : ∀ (k m : Nat) (out : ByteArray), m < 10 ^ k -> k <= 18 -> out.size + k <= 100 ->
   Z tS (.loop 0 F20l0 [(0, .int n), (3, .str digS), (4, .str out), (5, .int m)] []) = some (.out (.exit 0) [(0, .int n), (3, .str digS), (4, .str (bs (if m = 0 then [] else decF k m) ++ out)), (5, .int 0), (11, .bool false)] [])
 | k, 0, out, _, _, _ => by
   rw [Z_loop_eq]
   have e : bs [] ++ out = out := by rw [show bs [] = ByteArray.empty from rfl, ByteArray.empty_append]
   simp [loopStep, run_F20l0, digS, e]
 | 0, m + 1, out, h, _, _ => by simp at h
 | k + 1, m + 1, out, h, hk, ho => by
   have hp : (10 : Nat) ^ (k + 1) <= 10 ^ 18 := Nat.pow_le_pow_right (by omega) hk
   have hd : ((m + 1 : Nat) : Int).tmod 10 = (((m + 1) % 10 : Nat) : Int) := rfl
   have hq : ((m + 1 : Nat) : Int).tdiv 10 = (((m + 1) / 10 : Nat) : Int) := rfl
   have hlt : (m + 1) % 10 < 10 := Nat.mod_lt _ (by omega)
   have hx := digS_at _ hlt
   have w1 := wrap64 (((m + 1) % 10 : Nat) + 1 : Int) (by omega)
   have w2 : IntKind.i64.wrap (((m + 1) / 10 : Nat) : Int) = ((m + 1) / 10 : Nat) := wrap64 _ (by omega)
   have hne : ¬ ((m + 1 : Nat) : Int) = 0 := by omega
   have hneg : ¬ (((m + 1) % 10 : Nat) : Int) < 0 := by omega
   have ih := dec_loop n k ((m + 1) / 10) (bs [(48 + (m + 1) % 10).toUInt8] ++ out) (by rw [Nat.pow_succ] at h; omega) (by omega) (by rw [ByteArray.size_append, bs_size]; simp; omega)
   have hres : bs (if (m + 1) / 10 = 0 then [] else decF k ((m + 1) / 10)) ++ (bs [(48 + (m + 1) % 10).toUInt8] ++ out) = bs (decF (k + 1) (m + 1)) ++ out := by
     rw [<- ByteArray.append_assoc]
     congr 1
     simp only [decF]
     by_cases h10 : m + 1 < 10
     · rw [if_pos h10, if_pos (by omega), Nat.mod_eq_of_lt h10]
       rfl
     · rw [if_neg h10, if_neg (by omega)]
       rfl
   rw [hres] at ih
   rw [if_neg (by omega), <- ih]
   generalize hd2 : (m + 1) % 10 = d at *
   generalize hq2 : (m + 1) / 10 = q at *
   generalize hm : m + 1 = M at *
   have hM : ¬ M = 0 := by omega
   have b1 : (d : Int) <= digS.size := by rw [show digS.size = 10 from rfl]; omega
   have b2 : (d : Int) + 1 <= digS.size := by rw [show digS.size = 10 from rfl]; omega
   have b3 : (0 : Int) <= (d : Int) + 1 := by omega
   have b4 : ((d : Int) + 1).toNat = d + 1 := by omega
   have b5 : (d : Int) <= (d : Int) + 1 := by omega
   have hsz : ¬ (9223372036854775807 : Int) < ((bs [(48 + d).toUInt8]).size : Int) + out.size := by rw [bs_size]; simp; omega
   generalize digS = ds at *
   generalize bs [(48 + d).toUInt8] = ch at *
   conv => lhs; rw [Z_loop_eq]
   simp [loopStep, run_F20l0, sliceSV, bound, hd, hq, hne, hneg, w1, w2, b1, b2, b3, b4, b5, hx, hsz, hM]
theorem decimal_Z {n : Nat} (h : n < 10 ^ 18) : Z tS (.call 20 [.int n] []) = some (.ret (.str (bs (decB n))) []) := by
 refine Z_call (pf := F20) rfl rfl ?_
 by_cases h0 : n = 0
 · subst h0
   simp [F20, decB, decF, bs]
 · have hne : ¬ (n : Int) = 0 := by omega
   have hneg : ¬ (n : Int) < 0 := by omega
   have z := dec_loop n 18 n ⟨#[]⟩ h (by omega) (by decide)
   rw [if_neg h0] at z
   have e : ∀ (k j n : Nat), n < 10 ^ k -> 1 <= k -> decF (k + j) n = decF k n := fun k => by
     induction k with
     | zero => intro j n _ h; omega
     | succ k ih =>
       intro j n hn _
       rw [show k + 1 + j = (k + j) + 1 by omega]
       simp only [decF]
       split
       · rfl
       · rename_i h10
         have hk : 1 <= k := by
           rcases k with _ | k
           · simp at hn; omega
           · omega
         rw [ih j (n / 10) (by rw [Nat.pow_succ] at hn; omega) hk]
   have e2 : bs (decF 18 n) ++ ⟨#[]⟩ = bs (decB n) := by
     rw [show decB n = decF (18 + 2) n from rfl, e 18 2 n h (by omega)]
     exact ByteArray.append_empty
   rw [e2] at z
   simp only [digS] at z
   simp [F20, h0, hne, hneg, z]
end Go.Pm
end SJr
section SLd
namespace Go.Pm
open F Gr
set_option maxHeartbeats 4000000
theorem same_Z (c : Cd) (hn : c ≠ []) (hl : c.length < 2 ^ 30) (e0 e1 e2 : Int) : Z base15 (.call 133 [pgD (codeD c) e0 e1 e2, pgD (codeD c) e0 e1 e2] []) = some (.ret (.bool true) []) := by
 obtain ⟨ex, z⟩ := same_loop c hn hl e0 e1 e2 c.length 0 (by omega)
 have hd := (codeD_is c).len
 have ho := (codeD_is c).one
 have hc := (codeD_is c).cells
 rw [show ((0 : Nat) : Int) = 0 from rfl] at z
 refine Z_call (pf := F133) rfl rfl ?_
 generalize codeD c = D at *
 simp [F133, pgD, hd, ho, hc, z, calm, alone, List.range_succ]
theorem up13 {t : Task} {r : Res} (h : Z base15 t = some r) : Z prog13d t = some r := Z_sub sub_base15_prog13d h
theorem decB_size {n : Nat} : (bs (decB n)).size <= 20 := by
 rw [bs_size]
 have : ∀ k n, (decF k n).length <= k := fun k => by
   induction k with
   | zero => intro n; simp [decF]
   | succ k ih => intro n; simp only [decF]; split; (· simp); (· have := ih (n / 10); simp; omega)
 exact this 20 n
theorem ctx_ns {l : List UInt8} : ((⟨l.toArray⟩ : ByteArray)).size = l.length := rfl
theorem compileFields_Z {f x y : Int} (hf : I64 f) (hx : I64 x) (hy : I64 y) : Z prog13d (.call 120 [.int f, .int x, .int y] []) = some (.ret (.bool true) []) := by
 obtain ⟨f0, f1⟩ := around_lt hf (m := 6) (by omega)
 obtain ⟨x0, x1⟩ := around_lt hx (m := 1000) (by omega)
 obtain ⟨y0, y1⟩ := around_lt hy (m := 1000) (by omega)
 have zx := up13 (around_b hx (m := 1000) (by omega))
 have zy := up13 (around_b hy (m := 1000) (by omega))
 obtain ⟨a, ha⟩ : ∃ a : Nat, around x 1000 = a := ⟨(around x 1000).toNat, by omega⟩
 obtain ⟨b, hb⟩ : ∃ b : Nat, around y 1000 = b := ⟨(around y 1000).toNat, by omega⟩
 rw [ha] at zx x0 x1
 rw [hb] at zy y0 y1
 obtain ⟨s, hs, hc⟩ := strL_at (l := storL) (p := around f 6) (by simpa [storL] using ⟨f0, f1⟩)
 have hat := at_full (strC storL) 6 true (around f 6) f0 (by omega)
 obtain ⟨_, _, s3⟩ := stor_tg hs
 have sa := decB_size (n := a)
 have sb := decB_size (n := b)
 have key : ∀ (p q : ByteArray), p.size <= 1000 -> q.size <= 20 -> ¬ (9223372036854775807 : Int) < (p.size : Int) + q.size := fun p q h1 h2 => by omega
 have hsz : ∀ (ow : ByteArray), ow.size <= 20 -> ∀ c d, c.size <= 20 -> d.size <= 20 -> ¬ 2000 < (fldT s (bs (decB a)) (bs (decB b)) ow c d).size := fun ow h c d h1 h2 => by
   unfold fldT
   simp only [ByteArray.size_append]
   simp only [ctx_ns, List.length_cons, List.length_nil]
   omega
 have par : ∀ (o : Bop) (ow : ByteArray) (p q : Nat), ow.size <= 20 -> byl ow = 32 :: (byl o.str ++ [32]) -> o.prec = 4 -> p < 1000 -> q < 1000 ->
     Z prog13d (.call 132 [.str (fldT s (bs (decB a)) (bs (decB b)) ow (bs (decB p)) (bs (decB q)))] []) = some (.ret (.tup [.dat (ru Hd.none.nd Hd.none.nd (Hd.some false (fldS true false false s a b o p q)).nd), .int 0, .int 0]) []) := fun o ow p q h1 h2 h3 h4 h5 => by
   obtain ⟨ts, h⟩ := fld_parse hs (x := a) (y := b) (p := p) (q := q) (by omega) (by omega) h4 h5 h2 h3 true false false (hsz ow h1 _ _ decB_size decB_size)
   have z := Z_sub sub_tR_prog13d (parse_Z (fldT s (bs (decB a)) (bs (decB b)) ow (bs (decB p)) (bs (decB q))) (by have := hsz ow h1 _ _ (decB_size (n := p)) (decB_size (n := q)); omega))
   rw [parseR, h] at z
   exact z
 have p1 := par .gt ⟨#[32, 62, 32]⟩ a b (by decide) (by decide) rfl (by omega) (by omega)
 have p2 := par .lt ⟨#[32, 60, 32]⟩ b a (by decide) (by decide) rfl (by omega) (by omega)
 have k1 := up13 (fld_comp (f := true) (fi := false) (fb := false) (g := false) hs (x := a) (y := b) (p := a) (q := b) (o := .gt) (by omega) (by omega) (.inl ⟨rfl, rfl, rfl⟩))
 have k2 := up13 (fld_comp (f := true) (fi := false) (fb := false) (g := false) hs (x := a) (y := b) (p := b) (q := a) (o := .lt) (by omega) (by omega) (.inr ⟨rfl, rfl, rfl⟩))
 have hcd := codeD_is (fldC (fieldI s) a b)
 have i2 := cut2_icC (fldC (fieldI s) a b) 2 (by simp [fldC])
 have i3 := cut2_icC (fldC (fieldI s) a b) 3 (by simp [fldC])
 refine fld_walk (F := fieldI s) (ic := icC (fldC (fieldI s) a b)) (n := 11) (cd := codeD (fldC (fieldI s) a b)) rfl (key _ _ ?_ ?_) rfl (key _ _ ?_ ?_) rfl (key _ _ ?_ ?_) rfl (key _ _ ?_ ?_) rfl (key _ _ ?_ ?_) rfl (key _ _ ?_ ?_) rfl (key _ _ ?_ ?_) rfl (key _ _ ?_ ?_) rfl (key _ _ ?_ ?_) rfl (key _ _ ?_ ?_) rfl (key _ _ ?_ ?_) rfl (key _ _ ?_ ?_) rfl (key _ _ ?_ ?_) rfl (key _ _ ?_ ?_) rfl (key _ _ ?_ ?_) rfl (key _ _ ?_ ?_)
   (up13 (around_b hf (by omega))) zx zy (Z_sub sub_tS_prog13d (decimal_Z (by omega))) (Z_sub sub_tS_prog13d (decimal_Z (by omega))) hat hc p1 p2 (by simp [Nd.d]) (by simp [Nd.d]) (by simp [Nd.d]) (by simp [Nd.d]) k1 k2 hcd.one hcd.cells hcd.len (by omega)
   (hcd.at_ 2 (by omega) (by simp [fldC])) (hcd.at_ 3 (by omega) (by simp [fldC])) i2 i3 (up13 (same_Z _ (by simp [fldC]) (by simp [fldC]) _ _ _)) (up13 (lfield_Z (List.mem_append_left _ hs))) (up13 lives15)
 all_goals
   try simp only [ByteArray.size_append]
   try simp only [ctx_ns, List.length_cons, List.length_nil]
   omega
end Go.Pm
end SLd
