/- Chapter 15, plain: running code does what the tree says. Chapter 15, plain: running the code of statements does what the tree says. -/
import Derived.Test.YtdnnjabacgpfdaaGreatDoorPmRc
set_option linter.unusedSimpArgs false
set_option linter.unusedVariables false
section SRj
namespace Go.Pm
open F Gr
structure MS where
 ws : List Int
 l : List Int
 q : List Int
 pc : Nat
inductive Pv (ws : List Int) : Int -> Int -> List Int -> Int -> Prop
 | lit {n : Int} : Bd n -> Pv ws 1 n [] n
 | var {n : Int} : 0 <= n -> n < 16 -> Pv ws 2 n [] (getN ws n.toNat)
 | self {n : Int} : Pv ws 6 n [] 1
 | other {n : Int} : Pv ws 7 n [] 2
 | tick {n : Int} : Pv ws 8 n [] 7
 | field {n b : Int} : 0 <= n -> n <= 7 -> Pv ws 4 n [b] (ldF ws b n)
 | neg {n b : Int} : Pv ws 13 n [b] (-b)
 | not {n b : Int} : Pv ws 17 n [b] (tr (decide (b = 0)))
 | ar {op n a b : Int} : (op = 9 \/ op = 10 \/ op = 11 \/ op = 12 \/ op = 14 \/ op = 15 \/ op = 16) -> Pv ws op n [a, b] (calcI op a b)
inductive X1 (c : Cd) : MS -> MS -> Prop
 | psh {ws l q r : List Int} {pc : Nat} {op n v : Int} : c[pc]? = some (op, n) -> Pv ws op n r v -> X1 c ⟨ws, l, q ++ r, pc⟩ ⟨ws, l, q ++ [v], pc + 1⟩
 | set {ws l q : List Int} {pc : Nat} {n b : Int} : c[pc]? = some (3, n) -> 0 <= n -> n < 16 -> X1 c ⟨ws, l, q ++ [b], pc⟩ ⟨ws.set n.toNat b, l, q, pc + 1⟩
 | store {ws l q : List Int} {pc : Nat} {n a b : Int} : c[pc]? = some (5, n) -> 0 <= n -> n <= 7 -> X1 c ⟨ws, l, q ++ [a, b], pc⟩ ⟨stW ws a n b, l ++ [1, a, n, b], q, pc + 1⟩
 | effect {ws l q : List Int} {pc : Nat} {n a b : Int} : c[pc]? = some (20, n) -> X1 c ⟨ws, l, q ++ [a, b], pc⟩ ⟨ws, l ++ [2, a, b, 0], q, pc + 1⟩
 | jump {ws l q : List Int} {pc : Nat} {n : Nat} : c[pc]? = some (18, (n : Int)) -> X1 c ⟨ws, l, q, pc⟩ ⟨ws, l, q, n⟩
 | unl0 {ws l q : List Int} {pc : Nat} {n : Nat} : c[pc]? = some (19, (n : Int)) -> X1 c ⟨ws, l, q ++ [0], pc⟩ ⟨ws, l, q, n⟩
 | unl1 {ws l q : List Int} {pc : Nat} {n : Nat} {b : Int} : c[pc]? = some (19, (n : Int)) -> b ≠ 0 -> X1 c ⟨ws, l, q ++ [b], pc⟩ ⟨ws, l, q, pc + 1⟩
inductive Xs (c : Cd) : Nat -> MS -> MS -> Prop
 | z {m : MS} : Xs c 0 m m
 | s {k : Nat} {m m1 m2 : MS} : X1 c m m1 -> Xs c k m1 m2 -> Xs c (k + 1) m m2
theorem Xs.app {c : Cd} {j k : Nat} {a b d : MS} (h : Xs c j a b) (g : Xs c k b d) : Xs c (j + k) a d := by
 induction h with
 | z => rw [Nat.zero_add]; exact g
 | s h _ ih => rw [Nat.add_right_comm]; exact .s h (ih g)
theorem Xs.one {c : Cd} {a b : MS} (h : X1 c a b) : Xs c 1 a b := .s h .z
def CdAt (c : Cd) (p : Nat) (d : Cd) : Prop := ∀ i, i < d.length -> c[p + i]? = d[i]?
theorem at_app {c a b : Cd} {p : Nat} (h : CdAt c p (a ++ b)) : CdAt c p a /\ CdAt c (p + a.length) b := by
 constructor
 · intro i hi
   rw [h i (by simp; omega), List.getElem?_append_left hi]
 · intro i hi
   rw [Nat.add_assoc, h (a.length + i) (by simp; omega), List.getElem?_append_right (by omega), Nat.add_sub_cancel_left]
theorem at_cons {c d : Cd} {p : Nat} {x : Int × Int} (h : CdAt c p (x :: d)) : c[p]? = some x /\ CdAt c (p + 1) d := by
 constructor
 · exact h 0 (by simp)
 · intro i hi
   have := h (i + 1) (by simp; omega)
   rw [Nat.add_assoc, Nat.add_comm 1 i, this]; rfl
theorem at_sq {c : Cd} {p : Nat} {a b : Int -> Cd} (h : CdAt c p (sq a b p)) : CdAt c p (a p) /\ CdAt c (p + (a p).length) (b ((p + (a p).length : Nat) : Int)) := by
 have := at_app h
 simpa [Int.natCast_add] using this
theorem at_sn {c : Cd} {p : Nat} {a : Int -> Cd} {i : Int × Int} (h : CdAt c p (snC a i p)) : CdAt c p (a p) /\ c[p + (a p).length]? = some i := by
 have := at_app h
 exact ⟨this.1, (at_cons this.2).1⟩
theorem at_br {c : Cd} {p : Nat} {C A B : Int -> Cd} (h : CdAt c p (brC C A B p)) : ∃ lc la lb : Nat, (C p).length = lc /\ (A ((p + lc + 1 : Nat) : Int)).length = la /\ (B ((p + lc + 1 + la + 1 : Nat) : Int)).length = lb /\
   CdAt c p (C p) /\ c[p + lc]? = some (19, ((p + lc + 1 + la + 1 : Nat) : Int)) /\ CdAt c (p + lc + 1) (A ((p + lc + 1 : Nat) : Int)) /\ c[p + lc + 1 + la]? = some (18, ((p + lc + 1 + la + 1 + lb : Nat) : Int)) /\
   CdAt c (p + lc + 1 + la + 1) (B ((p + lc + 1 + la + 1 : Nat) : Int)) /\ (brC C A B p).length = lc + 1 + la + 1 + lb := by
 have e1 : (p : Int) + (C p).length + 1 = ((p + (C p).length + 1 : Nat) : Int) := by omega
 refine ⟨_, _, _, rfl, rfl, rfl, ?_⟩
 have hl : (brC C A B p).length = (C p).length + 1 + (A ((p + (C p).length + 1 : Nat) : Int)).length + 1 + (B ((p + (C p).length + 1 + (A ((p + (C p).length + 1 : Nat) : Int)).length + 1 : Nat) : Int)).length := by
   unfold brC
   rw [e1]
   simp only [List.length_append, List.length_cons]
   rw [show ((p + (C p).length + 1 : Nat) : Int) + ((A ((p + (C p).length + 1 : Nat) : Int)).length : Int) + 1 = ((p + (C p).length + 1 + (A ((p + (C p).length + 1 : Nat) : Int)).length + 1 : Nat) : Int) by omega]
   omega
 rw [hl]
 unfold brC at h
 rw [e1] at h
 rw [show ((p + (C p).length + 1 : Nat) : Int) + ((A ((p + (C p).length + 1 : Nat) : Int)).length : Int) + 1 = ((p + (C p).length + 1 + (A ((p + (C p).length + 1 : Nat) : Int)).length + 1 : Nat) : Int) by omega] at h
 obtain ⟨h1, h2⟩ := at_app h
 obtain ⟨h3, h4⟩ := at_cons h2
 obtain ⟨h5, h6⟩ := at_app h4
 obtain ⟨h7, h8⟩ := at_cons h6
 refine ⟨h1, h3, h5, ?_, h8, rfl⟩
 rw [h7]
 rfl
theorem at_wh {c : Cd} {p : Nat} {C A : Int -> Cd} (h : CdAt c p (whC C A p)) : ∃ lc la : Nat, (C p).length = lc /\ (A ((p + lc + 1 : Nat) : Int)).length = la /\
   CdAt c p (C p) /\ c[p + lc]? = some (19, ((p + lc + 1 + la + 1 : Nat) : Int)) /\ CdAt c (p + lc + 1) (A ((p + lc + 1 : Nat) : Int)) /\ c[p + lc + 1 + la]? = some (18, (p : Int)) /\ (whC C A p).length = lc + 1 + la + 1 := by
 have e1 : (p : Int) + (C p).length + 1 = ((p + (C p).length + 1 : Nat) : Int) := by omega
 refine ⟨_, _, rfl, rfl, ?_⟩
 have hl : (whC C A p).length = (C p).length + 1 + (A ((p + (C p).length + 1 : Nat) : Int)).length + 1 := by
   unfold whC
   rw [e1]
   simp only [List.length_append, List.length_cons, List.length_nil]
   omega
 rw [hl]
 unfold whC at h
 rw [e1] at h
 obtain ⟨h1, h2⟩ := at_app h
 obtain ⟨h3, h4⟩ := at_cons h2
 obtain ⟨h5, h6⟩ := at_app h4
 obtain ⟨h7, h8⟩ := at_cons h6
 refine ⟨h1, ?_, h5, h7, rfl⟩
 rw [h3]
 congr
section
variable {c : Cd} {vs : List ByteArray} {ws : List Int}
def SimE (c : Cd) (vs : List ByteArray) (ws : List Int) (e : E) : Prop := ∀ (p : Nat) (l q : List Int), CdAt c p (codeE vs e p) -> ∃ k, Xs c k ⟨ws, l, q, p⟩ ⟨ws, l, q ++ [vE vs ws e], p + (codeE vs e p).length⟩ /\ (k : Int) + 2 <= 3 * cE vs ws e
theorem sim_psh {e : E} {x : Int × Int} (he : ∀ p : Int, codeE vs e p = [x]) (hv : Pv ws x.1 x.2 [] (vE vs ws e)) : SimE c vs ws e := by
 intro p l q h
 rw [he] at h ⊢
 have hc := (cE_rng vs ws e).1
 exact ⟨1, .one (by simpa using X1.psh (q := q) (at_cons h).1 hv), by omega⟩
theorem sim_sn {a : Int -> Cd} {e e1 : E} {i : Int × Int} (he : codeE vs e = snC (codeE vs e1) i) (h1 : SimE c vs ws e1) (hv : Pv ws i.1 i.2 [vE vs ws e1] (vE vs ws e)) (hc : cE vs ws e = cE vs ws e1 + 1) : SimE c vs ws e := by
 intro p l q h
 rw [he] at h ⊢
 obtain ⟨h2, h3⟩ := at_sn h
 obtain ⟨k, x, hk⟩ := h1 p l q h2
 refine ⟨k + 1, x.app (.one ?_), by omega⟩
 have := X1.psh (q := q) (l := l) h3 hv
 simpa [snC, Nat.add_assoc] using this
theorem sim_two0 {e a b : E} {i : Int × Int} (he : codeE vs e = snC (sq (codeE vs a) (codeE vs b)) i) (ha : SimE c vs ws a) (hb : SimE c vs ws b) (hv : Pv ws i.1 i.2 [vE vs ws a, vE vs ws b] (vE vs ws e))
   (hc : cE vs ws e = cE vs ws a + cE vs ws b + 1) (p : Nat) (l q : List Int) (h : CdAt c p (codeE vs e p)) : ∃ k, Xs c k ⟨ws, l, q, p⟩ ⟨ws, l, q ++ [vE vs ws e], p + (codeE vs e p).length⟩ /\ (k : Int) + 3 <= 3 * cE vs ws e := by
 rw [he] at h ⊢
 obtain ⟨h2, h3⟩ := at_sn h
 obtain ⟨h4, h5⟩ := at_sq h2
 obtain ⟨k, x, hk⟩ := ha p l q h4
 obtain ⟨j, y, hj⟩ := hb _ l (q ++ [vE vs ws a]) h5
 refine ⟨k + (j + 1), x.app (y.app (.one ?_)), by omega⟩
 have h3' : c[p + (codeE vs a p).length + (codeE vs b ((p + (codeE vs a p).length : Nat) : Int)).length]? = some i := by
   rw [<- h3]; congr 1; simp [sq, Nat.add_assoc]
 have := X1.psh (q := q) (l := l) h3' hv
 have e2 : q ++ [vE vs ws a] ++ [vE vs ws b] = q ++ [vE vs ws a, vE vs ws b] := by simp
 have e3 : (snC (sq (codeE vs a) (codeE vs b)) i p).length = (codeE vs a p).length + (codeE vs b ((p + (codeE vs a p).length : Nat) : Int)).length + 1 := by simp [snC, sq]; omega
 rw [e2, e3]
 simpa [Nat.add_assoc] using this
theorem sim_two {e a b : E} {i : Int × Int} (he : codeE vs e = snC (sq (codeE vs a) (codeE vs b)) i) (ha : SimE c vs ws a) (hb : SimE c vs ws b) (hv : Pv ws i.1 i.2 [vE vs ws a, vE vs ws b] (vE vs ws e))
   (hc : cE vs ws e = cE vs ws a + cE vs ws b + 1) : SimE c vs ws e := fun p l q h => by
 obtain ⟨k, x, hk⟩ := sim_two0 he ha hb hv hc p l q h
 exact ⟨k, x, by omega⟩
theorem sim_E (hv : vs.length <= 16) : ∀ e : E, e.fine -> e.inV vs -> SimE c vs ws e
 | .int n, hf, _ => sim_psh (x := (1, n)) (fun _ => rfl) (.lit (by simp only [E.fine] at hf; omega))
 | .bool n, hf, _ => sim_psh (x := (1, n)) (fun _ => rfl) (.lit (by simp only [E.fine] at hf; omega))
 | .var s, _, hi => by
   have := ixI_mem hi
   exact sim_psh (x := (2, ixI vs s)) (fun _ => rfl) (.var (by omega) (by omega))
 | .name s, _, _ => by
   refine sim_psh (x := (nameI s, 0)) (fun _ => rfl) ?_
   rcases nameI_rng s with h | h | h <;> simp only [vE, h]
   · exact .self
   · exact .other
   · exact .tick
 | .field f s e, hf, hi => by
   have := fieldI_field hf.1
   exact sim_sn (a := fun _ => []) rfl (sim_E hv e hf.2.1 hi) (.field this.1 this.2) rfl
 | .un f neg e, hf, hi => by
   refine sim_sn (a := fun _ => []) rfl (sim_E hv e hf.1 hi) ?_ rfl
   cases neg
   · exact .not
   · exact .neg
 | .bin f o a b, hf, hi => by
   have ha := sim_E hv a hf.1 hi.1
   have hb := sim_E hv b hf.2.1 hi.2
   have ca := cE_rng vs ws a
   have cb := cE_rng vs ws b
   cases o
   case and =>
     intro p l q h
     obtain ⟨lc, la, lb, e1, e2, e3, h1, h2, h3, h4, h5, h6⟩ := at_br (C := codeE vs a) (A := codeE vs b) (B := fun _ => [(1, 0)]) h
     obtain ⟨k, x, hk⟩ := ha p l q h1
     rw [e1] at x
     obtain rfl : lb = 1 := e3.symm
     rw [show (codeE vs (.bin f .and a b) p).length = lc + 1 + la + 1 + 1 from h6]
     by_cases hz : vE vs ws a = 0
     · refine ⟨k + (1 + 1), x.app (.app (.one (by rw [hz]; exact .unl0 h2)) (.one ?_)), ?_⟩
       · have := X1.psh (q := q) (l := l) (at_cons h5).1 (Pv.lit (ws := ws) (n := 0) (by omega))
         simpa [vE, hz, Nat.add_assoc] using this
       · simp only [cE, if_pos hz]; omega
     · obtain ⟨j, y, hj⟩ := hb _ l q h3
       rw [e2] at y
       refine ⟨k + (1 + (j + 1)), x.app (.app (.one (.unl1 h2 hz)) (y.app (.one ?_))), ?_⟩
       · have := X1.jump (ws := ws) (l := l) (q := q ++ [vE vs ws b]) h4
         simpa [vE, hz, Nat.add_assoc] using this
       · simp only [cE, if_neg hz]; omega
   case or =>
     intro p l q h
     obtain ⟨lc, la, lb, e1, e2, e3, h1, h2, h3, h4, h5, h6⟩ := at_br (C := codeE vs a) (A := fun _ => [(1, 1)]) (B := codeE vs b) h
     obtain ⟨k, x, hk⟩ := ha p l q h1
     rw [e1] at x
     obtain rfl : la = 1 := e2.symm
     rw [show (codeE vs (.bin f .or a b) p).length = lc + 1 + 1 + 1 + lb from h6]
     by_cases hz : vE vs ws a = 0
     · obtain ⟨j, y, hj⟩ := hb _ l q h5
       rw [e3] at y
       refine ⟨k + (1 + j), x.app (.app (.one (by rw [hz]; exact .unl0 h2)) ?_), ?_⟩
       · simpa [vE, hz, Nat.add_assoc] using y
       · simp only [cE, if_pos hz]; omega
     · have hp := X1.psh (q := q) (l := l) (at_cons h3).1 (Pv.lit (ws := ws) (n := 1) (by omega))
       rw [List.append_nil] at hp
       refine ⟨k + (1 + (1 + 1)), x.app (.app (.one (.unl1 h2 hz)) (.app (.one hp) (.one ?_))), ?_⟩
       · have := X1.jump (ws := ws) (l := l) (q := q ++ [1]) h4
         simpa [vE, hz, Nat.add_assoc] using this
       · simp only [cE, if_neg hz]; omega
   case gt =>
     intro p l q h
     obtain ⟨h2, h3⟩ := at_sn h
     obtain ⟨h4, h5⟩ := at_sq h2
     obtain ⟨k, x, hk⟩ := hb p l q h4
     obtain ⟨j, y, hj⟩ := ha _ l (q ++ [vE vs ws b]) h5
     refine ⟨k + (j + 1), x.app (y.app (.one ?_)), by simp only [cE]; omega⟩
     have h3' : c[p + (codeE vs b p).length + (codeE vs a ((p + (codeE vs b p).length : Nat) : Int)).length]? = some (14, 0) := by
       rw [<- h3]; congr 1; simp [sq, Nat.add_assoc]
     have := X1.psh (q := q) (l := l) h3' (Pv.ar (ws := ws) (a := vE vs ws b) (b := vE vs ws a) (by simp))
     have e2 : q ++ [vE vs ws b] ++ [vE vs ws a] = q ++ [vE vs ws b, vE vs ws a] := by simp
     have e3 : (codeE vs (.bin f .gt a b) p).length = (codeE vs b p).length + (codeE vs a ((p + (codeE vs b p).length : Nat) : Int)).length + 1 := by simp [codeE, binC, snC, sq]; omega
     rw [e2, e3]
     simpa [vE, Nat.add_assoc] using this
   case ge =>
     intro p l q h
     obtain ⟨h2, h3⟩ := at_sn h
     obtain ⟨h4, h5⟩ := at_sq h2
     obtain ⟨k, x, hk⟩ := hb p l q h4
     obtain ⟨j, y, hj⟩ := ha _ l (q ++ [vE vs ws b]) h5
     refine ⟨k + (j + 1), x.app (y.app (.one ?_)), by simp only [cE]; omega⟩
     have h3' : c[p + (codeE vs b p).length + (codeE vs a ((p + (codeE vs b p).length : Nat) : Int)).length]? = some (15, 0) := by
       rw [<- h3]; congr 1; simp [sq, Nat.add_assoc]
     have := X1.psh (q := q) (l := l) h3' (Pv.ar (ws := ws) (a := vE vs ws b) (b := vE vs ws a) (by simp))
     have e2 : q ++ [vE vs ws b] ++ [vE vs ws a] = q ++ [vE vs ws b, vE vs ws a] := by simp
     have e3 : (codeE vs (.bin f .ge a b) p).length = (codeE vs b p).length + (codeE vs a ((p + (codeE vs b p).length : Nat) : Int)).length + 1 := by simp [codeE, binC, snC, sq]; omega
     rw [e2, e3]
     simpa [vE, Nat.add_assoc] using this
   case ne =>
     intro p l q h
     obtain ⟨h2, h3⟩ := at_sn (a := snC (sq (codeE vs a) (codeE vs b)) (16, 0)) h
     obtain ⟨k, x, hk⟩ := sim_two0 (e := .bin f .eq a b) (i := (16, 0)) rfl ha hb (Pv.ar (by simp [opI])) rfl p l q h2
     have hce : cE vs ws (.bin f .eq a b) = cE vs ws a + cE vs ws b + 1 := rfl
     have hcn : cE vs ws (.bin f .ne a b) = cE vs ws a + cE vs ws b + 1 := rfl
     refine ⟨k + 1, x.app (.one ?_), by omega⟩
     have := X1.psh (q := q) (l := l) h3 (Pv.not (ws := ws) (b := vE vs ws (.bin f .eq a b)))
     have ev : vE vs ws (.bin f .ne a b) = tr (decide (vE vs ws (.bin f .eq a b) = 0)) := by
       simp only [vE, opI, calcI, Int.reduceEq, if_false]
       by_cases hz : vE vs ws a = vE vs ws b <;> simp [hz, tr]
     have hl : p + (codeE vs (.bin f .ne a b) p).length = p + (snC (sq (codeE vs a) (codeE vs b)) (16, 0) p).length + 1 := by simp [codeE, binC, snC, Nat.add_assoc]
     rw [ev, hl]
     exact this
   all_goals exact sim_two rfl ha hb (Pv.ar (by simp [opI])) rfl
end
end Go.Pm
end SRj
section SRk
namespace Go.Pm
open F Gr
def codeH (vs : List ByteArray) : Ss -> Int -> Cd
 | .nil => fun _ => []
 | .assign _ s e _ => snC (codeE vs e) (3, ixI vs s)
 | .store _ s a b _ => snC (sq (codeE vs a) (codeE vs b)) (5, fieldI s)
 | .effect _ a b _ => snC (sq (codeE vs a) (codeE vs b)) (20, 0)
 | .stop _ => fun _ => [(21, 0)]
 | .cond false _ c (.block _ x (.block _ y .nil)) _ => brC (codeE vs c) (codeS vs x) (codeS vs y)
 | .cond true _ c (.block _ x .nil) _ => whC (codeE vs c) (codeS vs x)
 | .cond .. => fun _ => []
 | .block _ x _ => codeS vs x
def okH (vs : List ByteArray) : Ss -> Prop
 | .block _ x _ => x.fine /\ x.inV vs
 | s => s.fine /\ s.inV vs
theorem codeS_sq {vs : List ByteArray} (x : Ss) (h : x.fine) (hn : x ≠ .nil) : codeS vs x = sq (codeH vs x) (codeS vs x.tl) := by
 fun_cases Ss.fine x with
 | case1 => exact absurd rfl hn
 | case8 => simp_all [Ss.fine]
 | _ => rfl
theorem okH_of {vs : List ByteArray} (x : Ss) (h : x.fine) (hi : x.inV vs) : okH vs x := by
 cases x with
 | block => exact h.elim
 | _ => exact ⟨h, hi⟩
theorem fine_tl (x : Ss) (h : x.fine) : x.tl.fine := by
 fun_cases Ss.fine x with
 | case1 => exact trivial
 | case2 => exact h.2
 | case3 => exact h.2
 | case4 => exact h.2
 | case5 => exact h
 | case6 => exact h.2.2.2
 | case7 => exact h.2.2
 | case8 => simp_all [Ss.fine]
theorem inV_tl {vs : List ByteArray} (x : Ss) (h : x.inV vs) : x.tl.inV vs := by
 cases x with
 | nil => trivial
 | assign => exact h.2
 | store => exact h.2
 | effect => exact h.2
 | stop => exact h
 | cond => exact h.2.2
 | block => exact h.2
theorem fine_if {f : Bool} {c : E} {b r : Ss} (h : (Ss.cond false f c b r).fine) : ∃ fx x fy y, b = .block fx x (.block fy y .nil) /\ c.fine /\ x.fine /\ y.fine := by
 cases b with
 | block fx x q =>
   cases q with
   | block fy y z =>
     cases z with
     | nil => exact ⟨fx, x, fy, y, rfl, h.1.1, h.2.1, h.2.2.1⟩
     | _ => exact h.elim
   | _ => exact h.elim
 | _ => exact h.elim
theorem fine_wh {f : Bool} {c : E} {b r : Ss} (h : (Ss.cond true f c b r).fine) : ∃ fx x, b = .block fx x .nil /\ c.fine /\ x.fine := by
 cases b with
 | block fx x q =>
   cases q with
   | nil => exact ⟨fx, x, rfl, h.1.1, h.2.1⟩
   | _ => exact h.elim
 | _ => exact h.elim
def Go (c : Cd) (st st' : RS) (p n : Nat) : Prop := ∃ k pc', Xs c k ⟨st.ws, st.l, [], p⟩ ⟨st'.ws, st'.l, [], pc'⟩ /\ (k : Int) + 3 * st'.n <= 3 * st.n /\ (if st'.c then c[pc']? = some (21, 0) else pc' = p + n)
def Sim (c : Cd) (vs : List ByteArray) : Mo -> RS -> Ss -> RS -> Prop
 | .one, st, s, st' => ∀ p, okH vs s -> CdAt c p (codeH vs s p) -> Go c st st' p (codeH vs s p).length
 | .row, st, s, st' => ∀ p, s.fine -> s.inV vs -> CdAt c p (codeS vs s p) -> Go c st st' p (codeS vs s p).length
 | .lp, st, s, st' => (∃ f b c r, s = .cond true f c b r) -> ∀ p, okH vs s -> CdAt c p (codeH vs s p) -> Go c st st' p (codeH vs s p).length
theorem sim_all {c : Cd} {vs : List ByteArray} (hv : vs.length <= 16) {m : Mo} {st st' : RS} {s : Ss} (h : Dx vs m st s st') :
   st'.n <= st.n /\ (st.c = true -> st'.ws = st.ws /\ st'.l = st.l /\ st'.c = true) /\ (st.c = false -> 0 < st'.n -> Sim c vs m st s st') := by
 induction h with
 | @off st s ho =>
   refine ⟨by simp only; omega, fun hc => ⟨rfl, rfl, hc⟩, fun hc hn => ?_⟩
   simp only at hn
   exact absurd ⟨hc, by omega⟩ ho
 | @assign st f s e r ho =>
   have ce := cE_rng vs st.ws e
   refine ⟨by simp only; omega, fun hc => Bool.noConfusion (ho.1.symm.trans hc), fun hc hn p ok hat => ?_⟩
   obtain ⟨h1, h2⟩ := at_sn hat
   obtain ⟨k, x, hk⟩ := sim_E (c := c) hv e ok.1.1.2.1 ok.2.1.2 p st.l [] h1
   have hi := ixI_mem ok.2.1.1
   refine ⟨k + 1, _, x.app (.one (.set h2 hi.1 (by omega))), by simp only; omega, ?_⟩
   simp only [hc, Bool.false_eq_true, if_false]
   simp [codeH, snC, Nat.add_assoc]
 | @store st f s a b r ho =>
   have ca := cE_rng vs st.ws a
   have cb := cE_rng vs st.ws b
   refine ⟨by simp only; omega, fun hc => Bool.noConfusion (ho.1.symm.trans hc), fun hc hn p ok hat => ?_⟩
   obtain ⟨h1, h2⟩ := at_sn hat
   obtain ⟨h3, h4⟩ := at_sq h1
   obtain ⟨k, x, hk⟩ := sim_E (c := c) hv a ok.1.1.2.1 ok.2.1.1 p st.l [] h3
   obtain ⟨j, y, hj⟩ := sim_E (c := c) hv b ok.1.1.2.2.2.1 ok.2.1.2 _ st.l ([] ++ [vE vs st.ws a]) h4
   have hi := fieldI_store ok.1.1.1
   have e1 : p + (sq (codeE vs a) (codeE vs b) p).length = p + (codeE vs a p).length + (codeE vs b ((p + (codeE vs a p).length : Nat) : Int)).length := by simp [sq, Nat.add_assoc]
   rw [e1] at h2
   refine ⟨k + (j + 1), _, x.app (y.app (.one (X1.store (q := []) h2 hi.1 (by omega)))), by simp only; omega, ?_⟩
   simp only [hc, Bool.false_eq_true, if_false]
   simp [codeH, snC, sq, Nat.add_assoc]
 | @effect st f a b r ho =>
   have ca := cE_rng vs st.ws a
   have cb := cE_rng vs st.ws b
   refine ⟨by simp only; omega, fun hc => Bool.noConfusion (ho.1.symm.trans hc), fun hc hn p ok hat => ?_⟩
   obtain ⟨h1, h2⟩ := at_sn hat
   obtain ⟨h3, h4⟩ := at_sq h1
   obtain ⟨k, x, hk⟩ := sim_E (c := c) hv a ok.1.1.1 ok.2.1.1 p st.l [] h3
   obtain ⟨j, y, hj⟩ := sim_E (c := c) hv b ok.1.1.2.2.1 ok.2.1.2 _ st.l ([] ++ [vE vs st.ws a]) h4
   have e1 : p + (sq (codeE vs a) (codeE vs b) p).length = p + (codeE vs a p).length + (codeE vs b ((p + (codeE vs a p).length : Nat) : Int)).length := by simp [sq, Nat.add_assoc]
   rw [e1] at h2
   refine ⟨k + (j + 1), _, x.app (y.app (.one (X1.effect (q := []) h2))), by simp only; omega, ?_⟩
   simp only [hc, Bool.false_eq_true, if_false]
   simp [codeH, snC, sq, Nat.add_assoc]
 | @stop st r ho =>
   refine ⟨by simp only; omega, fun hc => Bool.noConfusion (ho.1.symm.trans hc), fun hc hn p ok hat => ?_⟩
   exact ⟨0, p, .z, by simp only; omega, by simp only [if_true]; exact (at_cons hat).1⟩
 | @ift st st' f cc b r ho hz hd ih =>
   have ce := cE_rng vs st.ws cc
   obtain ⟨i1, i2, i3⟩ := ih
   simp only at i1 i2 i3
   refine ⟨by omega, fun hc => Bool.noConfusion (ho.1.symm.trans hc), fun hc hn p ok hat => ?_⟩
   obtain ⟨fx, x, fy, y, rfl, k1, k2, k3⟩ := fine_if ok.1
   obtain ⟨lc, la, lb, e1, e2, e3, h1, h2, h3, h4, h5, h6⟩ := at_br hat
   obtain ⟨k, z, hk⟩ := sim_E (c := c) hv cc k1 ok.2.1 p st.l [] h1
   rw [e1] at z
   obtain ⟨j, pc', w, hj, hp⟩ := i3 hc hn (p + lc + 1) ⟨k2, ok.2.2.1.1⟩ h3
   simp only at w hj
   have e4 : (codeH vs (.cond false f cc (.block fx x (.block fy y .nil)) r) p).length = lc + 1 + la + 1 + lb := h6
   rw [e4]
   by_cases hs : st'.c = true
   · rw [if_pos hs] at hp
     exact ⟨k + (1 + j), pc', z.app (.app (.one (.unl1 h2 hz)) w), by omega, by rw [if_pos hs]; exact hp⟩
   · rw [if_neg hs] at hp
     have e5 : (codeH vs (.block fx x (.block fy y .nil)) ((p + lc + 1 : Nat) : Int)).length = la := e2
     rw [e5] at hp
     subst hp
     exact ⟨k + (1 + (j + 1)), _, z.app (.app (.one (.unl1 h2 hz)) (w.app (.one (.jump h4)))), by omega, by rw [if_neg hs]; omega⟩
 | @iff st st' f cc b r ho hz hd ih =>
   have ce := cE_rng vs st.ws cc
   obtain ⟨i1, i2, i3⟩ := ih
   simp only at i1 i2 i3
   refine ⟨by omega, fun hc => Bool.noConfusion (ho.1.symm.trans hc), fun hc hn p ok hat => ?_⟩
   obtain ⟨fx, x, fy, y, rfl, k1, k2, k3⟩ := fine_if ok.1
   obtain ⟨lc, la, lb, e1, e2, e3, h1, h2, h3, h4, h5, h6⟩ := at_br hat
   obtain ⟨k, z, hk⟩ := sim_E (c := c) hv cc k1 ok.2.1 p st.l [] h1
   rw [e1, hz] at z
   obtain ⟨j, pc', w, hj, hp⟩ := i3 hc hn (p + lc + 1 + la + 1) ⟨k3, ok.2.2.1.2.1⟩ h5
   simp only at w hj
   have e4 : (codeH vs (.cond false f cc (.block fx x (.block fy y .nil)) r) p).length = lc + 1 + la + 1 + lb := h6
   rw [e4]
   refine ⟨k + (1 + j), pc', z.app (.app (.one (.unl0 h2)) w), by omega, ?_⟩
   by_cases hs : st'.c = true
   · rw [if_pos hs] at hp ⊢
     exact hp
   · rw [if_neg hs] at hp ⊢
     have e5 : (codeH vs (Ss.tl (.block fx x (.block fy y .nil))) ((p + lc + 1 + la + 1 : Nat) : Int)).length = lb := e3
     rw [e5] at hp
     omega
 | @whl st st' f cc b r ho hd ih =>
   obtain ⟨i1, i2, i3⟩ := ih
   simp only at i1 i2 i3
   refine ⟨by omega, fun hc => Bool.noConfusion (ho.1.symm.trans hc), fun hc hn p ok hat => ?_⟩
   obtain ⟨j, pc', w, hj, hp⟩ := i3 hc hn ⟨_, _, _, _, rfl⟩ p ok hat
   simp only at w hj
   exact ⟨j, pc', w, by omega, hp⟩
 | @block st st' f b r ho hd ih =>
   obtain ⟨i1, i2, i3⟩ := ih
   simp only at i1 i2 i3
   refine ⟨by omega, fun hc => Bool.noConfusion (ho.1.symm.trans hc), fun hc hn p ok hat => ?_⟩
   obtain ⟨j, pc', w, hj, hp⟩ := i3 hc hn p ok.1 ok.2 hat
   simp only at w hj
   exact ⟨j, pc', w, by omega, hp⟩
 | @nil st =>
   exact ⟨by omega, fun hc => ⟨rfl, rfl, hc⟩, fun hc hn p _ _ _ => ⟨0, p, .z, by omega, by rw [hc]; simp [codeS]⟩⟩
 | @cons st st1 st2 s hs h1 h2 ih1 ih2 =>
   obtain ⟨i1, i2, i3⟩ := ih1
   obtain ⟨j1, j2, j3⟩ := ih2
   refine ⟨by omega, fun hc => ?_, fun hc hn p hf hi hat => ?_⟩
   · obtain ⟨a1, a2, a3⟩ := i2 hc
     obtain ⟨b1, b2, b3⟩ := j2 a3
     exact ⟨b1.trans a1, b2.trans a2, b3⟩
   · rw [codeS_sq s hf hs] at hat ⊢
     obtain ⟨h3, h4⟩ := at_sq hat
     obtain ⟨k, pc', z, hk, hp⟩ := i3 hc (by omega) p (okH_of s hf hi) h3
     by_cases hc1 : st1.c = true
     · obtain ⟨b1, b2, b3⟩ := j2 hc1
       rw [if_pos hc1] at hp
       exact ⟨k, pc', by rw [b1, b2]; exact z, by omega, by rw [if_pos b3]; exact hp⟩
     · rw [if_neg hc1] at hp
       subst hp
       obtain ⟨j, pc2, w, hj, hq⟩ := j3 (by simpa using hc1) hn _ (fine_tl s hf) (inV_tl s hi) h4
       refine ⟨k + j, pc2, z.app w, by omega, ?_⟩
       by_cases hs2 : st2.c = true
       · rw [if_pos hs2] at hq ⊢; exact hq
       · rw [if_neg hs2] at hq ⊢; rw [hq]; simp [sq, Nat.add_assoc]
 | @lpe st s ho =>
   refine ⟨by omega, fun hc => ⟨rfl, rfl, hc⟩, fun hc hn => ?_⟩
   exact absurd ⟨hc, by omega⟩ ho
 | @lpo st w f cc b r ho hz =>
   have ce := cE_rng vs st.ws cc
   refine ⟨by simp only; omega, fun hc => Bool.noConfusion (ho.1.symm.trans hc), fun hc hn hw p ok hat => ?_⟩
   obtain ⟨_, _, _, _, hw⟩ := hw
   cases hw
   obtain ⟨fx, x, rfl, k1, k2⟩ := fine_wh ok.1
   obtain ⟨lc, la, e1, e2, h1, h2, h3, h4, h5⟩ := at_wh hat
   obtain ⟨k, z, hk⟩ := sim_E (c := c) hv cc k1 ok.2.1 p st.l [] h1
   rw [e1, hz] at z
   have e4 : (codeH vs (.cond true f cc (.block fx x .nil) r) p).length = lc + 1 + la + 1 := h5
   rw [e4]
   exact ⟨k + 1, _, z.app (.one (.unl0 h2)), by simp only; omega, by simp only [hc, Bool.false_eq_true, if_false]; omega⟩
 | @lpg st st1 st' w f cc b r ho hz h1 h2 ih1 ih2 =>
   have ce := cE_rng vs st.ws cc
   obtain ⟨i1, i2, i3⟩ := ih1
   obtain ⟨j1, j2, j3⟩ := ih2
   simp only at i1 i2 i3
   refine ⟨by omega, fun hc => Bool.noConfusion (ho.1.symm.trans hc), fun hc hn hw p ok hat => ?_⟩
   have hw' := hw
   obtain ⟨_, _, _, _, hw⟩ := hw
   cases hw
   obtain ⟨fx, x, rfl, k1, k2⟩ := fine_wh ok.1
   obtain ⟨lc, la, e1, e2, g1, g2, g3, g4, g5⟩ := at_wh hat
   obtain ⟨k, z, hk⟩ := sim_E (c := c) hv cc k1 ok.2.1 p st.l [] g1
   rw [e1] at z
   obtain ⟨j, pc', y, hj, hp⟩ := i3 hc (by omega) (p + lc + 1) ⟨k2, ok.2.2.1.1⟩ g3
   simp only at y hj
   by_cases hc1 : st1.c = true
   · obtain ⟨b1, b2, b3⟩ := j2 hc1
     rw [if_pos hc1] at hp
     exact ⟨k + (1 + j), pc', z.app (.app (.one (.unl1 g2 hz)) (by rw [b1, b2]; exact y)), by omega, by rw [if_pos b3]; exact hp⟩
   · rw [if_neg hc1] at hp
     have e5 : (codeH vs (.block fx x .nil) ((p + lc + 1 : Nat) : Int)).length = la := e2
     rw [e5] at hp
     subst hp
     obtain ⟨i, pc2, v, hi, hq⟩ := j3 (by simpa using hc1) hn hw' p ok hat
     exact ⟨k + (1 + (j + (1 + i))), pc2, z.app (.app (.one (.unl1 g2 hz)) (y.app (.app (.one (.jump g4)) v))), by omega, hq⟩
end Go.Pm
end SRk
