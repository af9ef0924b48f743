/- Chapter 14: the law of renaming. -/
import Derived.Test.YtebhnnjdljcicaaPmQ28
set_option linter.unusedSimpArgs false
set_option linter.unusedVariables false
namespace Go.Pm
open F
theorem rn_fo {d : ByteArray} (hd : d.size ≤ 100) : ∀ (a : Fo), a.size < 2^28 → Sm a.vars →
    (∀ (k n : Int) (s : ByteArray) (f : Bool), (s.size ≤ 100 ∨ (k ≠ 1 ∧ k ≠ 10)) → Z prog (.call 21 [nd k n s f a, .str d] []) = some (.ret (nd k n (rnX s d k) false (a.ren d)) [])) ∧
    (∀ (i : Nat) (cs : List D) (N : Nat) (fl : Bool) (pre : Fo) (k n : Int) (s s' : ByteArray), cs.drop (i * 4) = a.cells → N = i + a.len → i + a.len < 2^29 → pre.len = i →
      Z prog (.loop 0 F21l0 (rnfr d i) (R1 k n s (.sl cs N fl) s' pre)) = some (.out (.exit 0) (rnfr d N ++ [(31, .bool false)]) (R1 k n s (.sl cs N fl) s' (pre.app (a.ren d)))))
  | .nil, hz, hs => by
    refine ⟨fun k n s f h => rn_nil h hd, fun i cs N fl pre k n s s' hc hN hb hp => ?_⟩
    simp only [fo_len_nil, Nat.add_zero] at hN
    subst hN
    rw [show pre.app (Fo.ren d .nil) = pre from app_nil pre]
    exact rn_end1
  | .cons k1 n1 s1 f1 ks1 r, hz, hs => by
    simp only [fo_size_cons] at hz
    have hl1 := fo_len_size r
    have s1' : s1.size ≤ 100 ∨ (k1 ≠ 1 ∧ k1 ≠ 10) := by
      by_cases h : k1 = 1 ∨ k1 = 10
      · exact .inl (hs s1 (by rw [Fo.vars, if_pos h]; simp))
      · exact .inr (by omega)
    have sk : Sm ks1.vars := fun x hx => hs x (by rw [Fo.vars]; simp [hx])
    have sr : Sm r.vars := fun x hx => hs x (by rw [Fo.vars]; simp [hx])
    have ihk := (rn_fo hd ks1 (by omega) sk).1 k1 n1 s1 f1 s1'
    have ihr := (rn_fo hd r (by omega) sr).2
    refine ⟨fun k n s f h => ?_, fun i cs N fl pre k n s s' hc hN hb hp => ?_⟩
    · refine rn_cons h hd (by simp) (by simp [Fo.ren]) fun s' => ?_
      have hst := rn_step0 (k := k) (n := n) (s := s) (s' := s') (cs := (Fo.cons k1 n1 s1 f1 ks1 r).cells) (N := (Fo.cons k1 n1 s1 f1 ks1 r).len) (fl := f) (by rfl) (by simp) (by simp only [fo_len_cons]; omega) ihk
      rw [hst]
      have h2 := ihr 1 (Fo.cons k1 n1 s1 f1 ks1 r).cells (Fo.cons k1 n1 s1 f1 ks1 r).len f (.cons k1 n1 (rnX s1 d k1) false (ks1.ren d) .nil) k n s s' rfl (by simp only [fo_len_cons]; omega) (by omega) (by simp)
      rw [h2]
      rfl
    · simp only [fo_cells_cons, fo_len_cons] at hc hN hb
      rw [rn_step1 hc (by omega) (by omega) (by omega) ihk]
      have h2 := ihr (i + 1) cs N fl (pre.app (.cons k1 n1 (rnX s1 d k1) false (ks1.ren d) .nil)) k n s s' (drop_next hc) (by omega) (by omega) (by rw [fo_len_app]; simp; omega)
      rw [h2, app_assoc]
      rfl
theorem Renamed_Z {d : ByteArray} (hd : d.size ≤ 100) (h : Hd) (hz : h.ks.size < 2^28) (ho : h.ok) : Z prog (.call 21 [h.nd.v, .str d] []) = some (.ret (h.ren d).nd.v []) := by
  have h1 := (rn_fo hd h.ks hz (hd_sm h ho)).1 h.k 0 ⟨#[]⟩ h.f (.inl (by simp [show (⟨#[]⟩ : ByteArray).size = 0 from rfl]))
  have e : rnX ⟨#[]⟩ d h.k = ⟨#[]⟩ := by cases h <;> simp [rnX, Hd.k]
  rw [e] at h1
  simpa only [Nd.v, hd_k, hd_n, hd_s, hd_f, hd_ks, hd_ren_k, hd_ren_f, hd_ren_ks] using h1
theorem Decimal_Z (n : Int) (h : 0 ≤ n ∧ n < 10) : ∃ d : ByteArray, d.size ≤ 100 ∧ Z prog (.call 20 [.int n] []) = some (.ret (.str d) []) := by
  have hk : ∀ k : Fin 10, ∃ d : ByteArray, d.size ≤ 100 ∧ Z prog (.call 20 [.int (k.val : Int)] []) = some (.ret (.str d) []) := by
    intro k
    match k with
    | ⟨0, _⟩ => exact ⟨⟨#[48]⟩, by decide, Z_of (n := 8) (by kernel_rfl)⟩
    | ⟨1, _⟩ => exact ⟨⟨#[49]⟩, by decide, Z_of (n := 8) (by kernel_rfl)⟩
    | ⟨2, _⟩ => exact ⟨⟨#[50]⟩, by decide, Z_of (n := 8) (by kernel_rfl)⟩
    | ⟨3, _⟩ => exact ⟨⟨#[51]⟩, by decide, Z_of (n := 8) (by kernel_rfl)⟩
    | ⟨4, _⟩ => exact ⟨⟨#[52]⟩, by decide, Z_of (n := 8) (by kernel_rfl)⟩
    | ⟨5, _⟩ => exact ⟨⟨#[53]⟩, by decide, Z_of (n := 8) (by kernel_rfl)⟩
    | ⟨6, _⟩ => exact ⟨⟨#[54]⟩, by decide, Z_of (n := 8) (by kernel_rfl)⟩
    | ⟨7, _⟩ => exact ⟨⟨#[55]⟩, by decide, Z_of (n := 8) (by kernel_rfl)⟩
    | ⟨8, _⟩ => exact ⟨⟨#[56]⟩, by decide, Z_of (n := 8) (by kernel_rfl)⟩
    | ⟨9, _⟩ => exact ⟨⟨#[57]⟩, by decide, Z_of (n := 8) (by kernel_rfl)⟩
  have := hk ⟨n.toNat, by omega⟩
  rwa [show ((n.toNat : Nat) : Int) = n by omega] at this
end Go.Pm
