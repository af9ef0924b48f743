/- Chapter 15, plain: what can happen from an instruction on. Chapter 15, plain: the analysis comes to its end. Chapter 15, plain: the reference's way: rounds over all instructions until nothing changes. Chapter 15, plain: both analyses say the same. -/
import Init
set_option linter.unusedSimpArgs false
set_option linter.unusedVariables false
section SP1
namespace Go.Pm.Gr
abbrev Cd := List (Int × Int)
def popI (op : Int) : Int := if op = 3 \/ op = 4 \/ op = 13 \/ op = 17 \/ op = 19 then 1 else if op = 5 \/ op = 9 \/ op = 10 \/ op = 11 \/ op = 12 \/ op = 14 \/ op = 15 \/ op = 16 \/ op = 20 then 2 else 0
def pushI (op : Int) : Int := if op = 3 \/ op = 5 \/ op = 18 \/ op = 19 \/ op = 20 \/ op = 21 then 0 else 1
theorem popI_rng (op : Int) : 0 <= popI op /\ popI op <= 2 := by unfold popI; split <;> (try split) <;> omega
theorem pushI_rng (op : Int) : 0 <= pushI op /\ pushI op <= 1 := by unfold pushI; split <;> omega
def opA (c : Cd) (i : Nat) : Int := (c.getD i (0, 0)).1
def nA (c : Cd) (i : Nat) : Int := (c.getD i (0, 0)).2
def sucs (c : Cd) (i : Nat) : List Int := if opA c i = 21 then [] else if opA c i = 18 then [nA c i] else if opA c i = 19 then [(i : Int) + 1, nA c i] else [(i : Int) + 1]
def Fits (c : Cd) : Prop := ∀ i, i < c.length -> ∀ j ∈ sucs c i, 0 <= j /\ j <= c.length
def aft (c : Cd) (i : Nat) (d : Int) : Int := d + (pushI (opA c i) - popI (opA c i))
inductive Reach (c : Cd) (e : Nat) : Nat -> Prop
 | here : Reach c e e
 | go {i j : Nat} : Reach c e i -> i < c.length -> (j : Int) ∈ sucs c i -> j < c.length -> Reach c e j
theorem Reach.lt {c : Cd} {e i : Nat} (he : e < c.length) (h : Reach c e i) : i < c.length := by
 cases h with
 | here => exact he
 | go _ _ _ h => exact h
structure CF (c : Cd) (e : Nat) (D : Nat -> Int) : Prop where
 zero : D e = 0
 pops : ∀ i, Reach c e i -> popI (opA c i) <= D i
 step : ∀ i, Reach c e i -> ∀ j : Nat, (j : Int) ∈ sucs c i -> j < c.length -> D j = aft c i (D i)
def Falls (c : Cd) (e : Nat) : Prop := ∃ i, Reach c e i /\ (c.length : Int) ∈ sucs c i
structure Most (c : Cd) (e : Nat) (D : Nat -> Int) (m : Int) : Prop where
 nonneg : 0 <= m
 le : ∀ i, Reach c e i -> aft c i (D i) <= m
 at_ : m = 0 \/ ∃ i, Reach c e i /\ m = aft c i (D i)
theorem Most.unique {c : Cd} {e : Nat} {D : Nat -> Int} {m m' : Int} (h : Most c e D m) (h' : Most c e D m') : m = m' := by
 have a : m <= m' := by
   rcases h.at_ with h0 | ⟨i, hi, h0⟩
   · have := h'.nonneg; omega
   · have := h'.le i hi; omega
 have b : m' <= m := by
   rcases h'.at_ with h0 | ⟨i, hi, h0⟩
   · have := h.nonneg; omega
   · have := h.le i hi; omega
 omega
theorem CF.unique {c : Cd} {e : Nat} {D D' : Nat -> Int} (h : CF c e D) (h' : CF c e D') {i : Nat} (hi : Reach c e i) : D i = D' i := by
 induction hi with
 | here => rw [h.zero, h'.zero]
 | go hi hl hj hjl ih => rw [h.step _ hi _ hj hjl, h'.step _ hi _ hj hjl, ih]
/-! ## the program's way: a list of instructions that are open -/
structure An where
 falls : Bool
 breaks : Bool
 depth : Int
 ds : List Int
 op : List Nat
def gD (l : List Int) (i : Nat) : Int := l.getD i 0
def one (n : Nat) (d : Int) (a : An) (j : Int) : An :=
 if j = n then { a with falls := true }
 else if gD a.ds j.toNat = 0 then { a with ds := a.ds.set j.toNat (max d 0 + 1), op := a.op ++ [j.toNat] }
 else if gD a.ds j.toNat ≠ d + 1 then { a with breaks := true }
 else a
def stp (c : Cd) (a : An) (i : Nat) (r : List Nat) : An :=
 let d := gD a.ds i - 1
 let d' := aft c i d
 (sucs c i).foldl (one c.length d') { a with breaks := a.breaks || decide (d < popI (opA c i)), depth := max a.depth d', op := r }
theorem gD_set_eq {l : List Int} {i : Nat} {v : Int} (h : i < l.length) : gD (l.set i v) i = v := by
 simp [gD, List.getD_eq_getElem?_getD, h]
theorem gD_set_ne {l : List Int} {i j : Nat} {v : Int} (h : i ≠ j) : gD (l.set i v) j = gD l j := by
 simp only [gD, List.getD_eq_getElem?_getD]
 rw [List.getElem?_set_ne h]
structure Inv (c : Cd) (e : Nat) (cur : Option Nat) (pre : List Int) (a : An) : Prop where
 len : a.ds.length = c.length
 nodup : a.op.Nodup
 opn : ∀ i ∈ a.op, i < c.length /\ gD a.ds i ≠ 0
 pos : ∀ i, i < c.length -> gD a.ds i ≠ 0 -> 1 <= gD a.ds i /\ Reach c e i
 ent : gD a.ds e = 1
 cur_ : ∀ i, cur = some i -> i < c.length /\ gD a.ds i ≠ 0 /\ i ∉ a.op
 done : ∀ i, i < c.length -> gD a.ds i ≠ 0 -> i ∉ a.op -> ∀ j ∈ (if cur = some i then pre else sucs c i), (j = c.length -> a.falls = true) /\ (j < c.length -> gD a.ds j.toNat ≠ 0)
 fal : a.falls = true -> Falls c e
 brk : a.breaks = false -> ∀ i, i < c.length -> gD a.ds i ≠ 0 -> i ∉ a.op -> popI (opA c i) <= gD a.ds i - 1 /\ ∀ j ∈ (if cur = some i then pre else sucs c i), j < c.length -> gD a.ds j.toNat = aft c i (gD a.ds i - 1) + 1
 cf : ∀ D, CF c e D -> a.breaks = false /\ ∀ i, i < c.length -> gD a.ds i ≠ 0 -> gD a.ds i = D i + 1
 dle : 0 <= a.depth /\ ∀ i, i < c.length -> gD a.ds i ≠ 0 -> i ∉ a.op -> aft c i (gD a.ds i - 1) <= a.depth
 dat : a.depth = 0 \/ ∃ i, i < c.length /\ gD a.ds i ≠ 0 /\ i ∉ a.op /\ a.depth = aft c i (gD a.ds i - 1)
theorem one_inv {c : Cd} {e i : Nat} {pre : List Int} {j : Int} {a : An} (h : Inv c e (some i) pre a) (hs : j ∈ sucs c i) (hj : 0 <= j /\ j <= c.length) :
   Inv c e (some i) (pre ++ [j]) (one c.length (aft c i (gD a.ds i - 1)) a j) /\ gD (one c.length (aft c i (gD a.ds i - 1)) a j).ds i = gD a.ds i := by
 obtain ⟨hi1, hi2, hi3⟩ := h.cur_ i rfl
 obtain ⟨hp1, hp2⟩ := h.pos i hi1 hi2
 unfold one
 by_cases hn : j = c.length
 · rw [if_pos hn]
   refine ⟨⟨h.len, h.nodup, h.opn, h.pos, h.ent, h.cur_, ?_, fun _ => ⟨i, hp2, by rw [<- hn]; exact hs⟩, ?_, h.cf, h.dle, h.dat⟩, rfl⟩
   · intro k k1 k2 k3 x hx
     have := h.done k k1 k2 k3
     by_cases hk : some i = some k
     · rw [if_pos hk] at hx this
       rcases List.mem_append.1 hx with hx | hx
       · exact ⟨fun _ => rfl, (this x hx).2⟩
       · simp only [List.mem_singleton] at hx
         exact ⟨fun _ => rfl, fun hl => by omega⟩
     · rw [if_neg hk] at hx this
       exact ⟨fun _ => rfl, (this x hx).2⟩
   · intro hb k k1 k2 k3
     have := h.brk hb k k1 k2 k3
     refine ⟨this.1, fun x hx hl => ?_⟩
     by_cases hk : some i = some k
     · rw [if_pos hk] at hx
       rw [if_pos hk] at this
       rcases List.mem_append.1 hx with hx | hx
       · exact this.2 x hx hl
       · simp only [List.mem_singleton] at hx; omega
     · rw [if_neg hk] at hx this
       exact this.2 x hx hl
 · rw [if_neg hn]
   have hjl : j.toNat < c.length := by omega
   have hjs : ((j.toNat : Nat) : Int) ∈ sucs c i := by rw [show ((j.toNat : Nat) : Int) = j by omega]; exact hs
   have hjr : Reach c e j.toNat := Reach.go hp2 hi1 hjs hjl
   by_cases h0 : gD a.ds j.toNat = 0
   · rw [if_pos h0]
     have hij : j.toNat ≠ i := fun hh => hi2 (by rw [<- hh]; exact h0)
     have hjo : j.toNat ∉ a.op := fun hh => (h.opn _ hh).2 h0
     have hnew : gD (a.ds.set j.toNat (max (aft c i (gD a.ds i - 1)) 0 + 1)) j.toNat = max (aft c i (gD a.ds i - 1)) 0 + 1 := gD_set_eq (by rw [h.len]; exact hjl)
     have hold : ∀ k, k ≠ j.toNat -> gD (a.ds.set j.toNat (max (aft c i (gD a.ds i - 1)) 0 + 1)) k = gD a.ds k := fun k hk => gD_set_ne (Ne.symm hk)
     have hge : ∀ k, gD a.ds k ≠ 0 -> gD (a.ds.set j.toNat (max (aft c i (gD a.ds i - 1)) 0 + 1)) k = gD a.ds k := fun k hk => hold k (fun hh => hk (by rw [hh]; exact h0))
     generalize hV : a.ds.set j.toNat (max (aft c i (gD a.ds i - 1)) 0 + 1) = V at *
     -- what is reached and not open now was so before
     have back : ∀ k, gD V k ≠ 0 -> k ∉ a.op ++ [j.toNat] -> gD a.ds k ≠ 0 /\ k ∉ a.op /\ gD V k = gD a.ds k := fun k k2 k3 => by
       have hk : k ≠ j.toNat := fun hh => k3 (by rw [hh]; simp)
       rw [hold k hk] at k2
       exact ⟨k2, fun hh => k3 (by simp [hh]), hold k hk⟩
     refine ⟨⟨by simp only; rw [<- hV]; simp [h.len], ?_, ?_, ?_, ?_, ?_, ?_, h.fal, ?_, ?_, ?_, ?_⟩, hold i (Ne.symm hij)⟩
     · simp only
       rw [List.nodup_append]
       exact ⟨h.nodup, by simp, fun x hx y hy => by simp only [List.mem_singleton] at hy; rw [hy]; exact fun hh => hjo (by rw [<- hh]; exact hx)⟩
     · intro k hk
       simp only at hk ⊢
       rcases List.mem_append.1 hk with hk | hk
       · have := h.opn k hk
         exact ⟨this.1, by rw [hge k this.2]; exact this.2⟩
       · simp only [List.mem_singleton] at hk
         rw [hk, hnew]
         exact ⟨hjl, by omega⟩
     · intro k k1 k2
       simp only at k2 ⊢
       by_cases hk : k = j.toNat
       · rw [hk, hnew]; exact ⟨by omega, hjr⟩
       · rw [hold k hk] at k2 ⊢; exact h.pos k k1 k2
     · simp only; rw [hge e (by rw [h.ent]; omega)]; exact h.ent
     · intro k hk
       have := h.cur_ k hk
       simp only
       refine ⟨this.1, by rw [hge k this.2.1]; exact this.2.1, ?_⟩
       rw [List.mem_append, not_or]
       refine ⟨this.2.2, ?_⟩
       simp only [List.mem_singleton]
       intro hh
       exact this.2.1 (by rw [hh]; exact h0)
     · intro k k1 k2 k3 x hx
       simp only at k2 k3 ⊢
       obtain ⟨b1, b2, b3⟩ := back k k2 k3
       have := h.done k k1 b1 b2
       by_cases hk : some i = some k
       · rw [if_pos hk] at hx this
         rcases List.mem_append.1 hx with hx | hx
         · exact ⟨(this x hx).1, fun hl => by rw [hge _ ((this x hx).2 hl)]; exact (this x hx).2 hl⟩
         · simp only [List.mem_singleton] at hx
           exact ⟨fun hh => absurd (hx ▸ hh) hn, fun _ => by rw [hx, hnew]; omega⟩
       · rw [if_neg hk] at hx this
         exact ⟨(this x hx).1, fun hl => by rw [hge _ ((this x hx).2 hl)]; exact (this x hx).2 hl⟩
     · intro hb k k1 k2 k3
       simp only at hb k2 k3 ⊢
       obtain ⟨b1, b2, b3⟩ := back k k2 k3
       have hbr := h.brk hb k k1 b1 b2
       have hdo := h.done k k1 b1 b2
       rw [b3]
       refine ⟨hbr.1, fun x hx hl => ?_⟩
       by_cases hk : some i = some k
       · rw [if_pos hk] at hx hbr hdo
         rcases List.mem_append.1 hx with hx | hx
         · rw [hge _ ((hdo x hx).2 hl)]; exact hbr.2 x hx hl
         · simp only [List.mem_singleton] at hx
           have hik : i = k := Option.some.inj hk
           subst hik
           have := pushI_rng (opA c i)
           rw [hx, hnew]
           have hh := hbr.1
           unfold aft
           omega
       · rw [if_neg hk] at hx hbr hdo
         rw [hge _ ((hdo x hx).2 hl)]; exact hbr.2 x hx hl
     · intro D hD
       obtain ⟨c1, c2⟩ := h.cf D hD
       refine ⟨c1, fun k k1 k2 => ?_⟩
       simp only at k2 ⊢
       by_cases hk : k = j.toNat
       · rw [hk, hnew, hD.step i hp2 j.toNat hjs hjl]
         have hDi : gD a.ds i = D i + 1 := c2 i hi1 hi2
         rw [show gD a.ds i - 1 = D i by omega]
         have := hD.pops i hp2
         have := pushI_rng (opA c i)
         unfold aft
         omega
       · rw [hold k hk] at k2 ⊢; exact c2 k k1 k2
     · refine ⟨h.dle.1, fun k k1 k2 k3 => ?_⟩
       simp only at k2 k3 ⊢
       obtain ⟨b1, b2, b3⟩ := back k k2 k3
       rw [b3]; exact h.dle.2 k k1 b1 b2
     · rcases h.dat with hd | ⟨k, k1, k2, k3, k4⟩
       · exact .inl hd
       · refine .inr ⟨k, k1, by simp only; rw [hge k k2]; exact k2, ?_, by simp only; rw [hge k k2]; exact k4⟩
         simp only
         rw [List.mem_append, not_or]
         refine ⟨k3, ?_⟩
         simp only [List.mem_singleton]
         intro hh
         exact k2 (by rw [hh]; exact h0)
   · rw [if_neg h0]
     by_cases hd : gD a.ds j.toNat ≠ aft c i (gD a.ds i - 1) + 1
     · rw [if_pos hd]
       refine ⟨⟨h.len, h.nodup, h.opn, h.pos, h.ent, h.cur_, ?_, h.fal, fun hb => by simp at hb, ?_, h.dle, h.dat⟩, rfl⟩
       · intro k k1 k2 k3 x hx
         have := h.done k k1 k2 k3
         by_cases hk : some i = some k
         · rw [if_pos hk] at hx this
           rcases List.mem_append.1 hx with hx | hx
           · exact this x hx
           · simp only [List.mem_singleton] at hx
             exact ⟨fun hh => absurd (hx ▸ hh) hn, fun _ => by rw [hx]; exact h0⟩
         · rw [if_neg hk] at hx this
           exact this x hx
       · intro D hD
         exfalso
         obtain ⟨c1, c2⟩ := h.cf D hD
         apply hd
         rw [c2 j.toNat hjl h0, hD.step i hp2 j.toNat hjs hjl, c2 i hi1 hi2, show D i + 1 - 1 = D i by omega]
     · rw [if_neg hd]
       have hd' : gD a.ds j.toNat = aft c i (gD a.ds i - 1) + 1 := by omega
       refine ⟨⟨h.len, h.nodup, h.opn, h.pos, h.ent, h.cur_, ?_, h.fal, ?_, h.cf, h.dle, h.dat⟩, rfl⟩
       · intro k k1 k2 k3 x hx
         have := h.done k k1 k2 k3
         by_cases hk : some i = some k
         · rw [if_pos hk] at hx this
           rcases List.mem_append.1 hx with hx | hx
           · exact this x hx
           · simp only [List.mem_singleton] at hx
             exact ⟨fun hh => absurd (hx ▸ hh) hn, fun _ => by rw [hx]; exact h0⟩
         · rw [if_neg hk] at hx this
           exact this x hx
       · intro hb k k1 k2 k3
         have := h.brk hb k k1 k2 k3
         refine ⟨this.1, fun x hx hl => ?_⟩
         by_cases hk : some i = some k
         · rw [if_pos hk] at hx
           rw [if_pos hk] at this
           rcases List.mem_append.1 hx with hx | hx
           · exact this.2 x hx hl
           · simp only [List.mem_singleton] at hx
             have hik : i = k := Option.some.inj hk
             subst hik
             rw [hx]; exact hd'
         · rw [if_neg hk] at hx this
           exact this.2 x hx hl
end Go.Pm.Gr
end SP1
section SP2
namespace Go.Pm.Gr
theorem fold_inv {c : Cd} {e i : Nat} : ∀ (l pre : List Int) (a : An) (d : Int), Inv c e (some i) pre a -> d = aft c i (gD a.ds i - 1) -> (∀ j ∈ l, j ∈ sucs c i /\ 0 <= j /\ j <= c.length) ->
   Inv c e (some i) (pre ++ l) (l.foldl (one c.length d) a) /\ gD (l.foldl (one c.length d) a).ds i = gD a.ds i
 | [], pre, a, d, h, _, _ => by simpa using h
 | j :: l, pre, a, d, h, hd, hl => by
   obtain ⟨h1, h2⟩ := one_inv h (hl j (by simp)).1 (hl j (by simp)).2
   rw [<- hd] at h1 h2
   have := fold_inv l (pre ++ [j]) (one c.length d a j) d h1 (by rw [h2]; exact hd) (fun x hx => hl x (by simp [hx]))
   rw [h2] at this
   simpa using this
theorem stp_inv {c : Cd} {e i : Nat} {r : List Nat} {a : An} (hf : Fits c) (h : Inv c e none [] a) (ho : a.op = r ++ [i]) : Inv c e none [] (stp c a i r) := by
 have hnd := h.nodup
 rw [ho, List.nodup_append] at hnd
 have hir : i ∉ r := fun hh => hnd.2.2 i hh i (by simp) rfl
 have hio : i ∈ a.op := by rw [ho]; simp
 obtain ⟨hil, hi0⟩ := h.opn i hio
 obtain ⟨hp1, hp2⟩ := h.pos i hil hi0
 -- what is reached and not open any more was so, or is i
 have back : ∀ k, k ∉ r -> k = i \/ k ∉ a.op := fun k hk => by
   by_cases hki : k = i
   · exact .inl hki
   · right; rw [ho]; simp [hk, hki]
 have h0 : Inv c e (some i) [] { a with breaks := a.breaks || decide (gD a.ds i - 1 < popI (opA c i)), depth := max a.depth (aft c i (gD a.ds i - 1)), op := r } := by
   refine ⟨h.len, hnd.1, fun k hk => h.opn k (by rw [ho]; simp [hk]), h.pos, h.ent, fun k hk => ?_, fun k k1 k2 k3 x hx => ?_, h.fal, fun hb k k1 k2 k3 => ?_, fun D hD => ?_, ⟨?_, fun k k1 k2 k3 => ?_⟩, ?_⟩
   · have : i = k := Option.some.inj hk
     subst this
     exact ⟨hil, hi0, hir⟩
   · simp only at k2 k3 ⊢
     by_cases hk : some i = some k
     · rw [if_pos hk] at hx; simp at hx
     · rw [if_neg hk] at hx
       rcases back k k3 with hki | hko
       · exact absurd (by rw [hki]) hk
       · have := h.done k k1 k2 hko
         simp only [reduceCtorEq, if_false] at this
         exact this x hx
   · simp only [Bool.or_eq_false_iff, decide_eq_false_iff_not] at hb
     simp only at k2 k3 ⊢
     by_cases hk : some i = some k
     · have : i = k := Option.some.inj hk
       subst this
       exact ⟨by omega, fun x hx => by rw [if_pos hk] at hx; simp at hx⟩
     · rw [if_neg hk]
       rcases back k k3 with hki | hko
       · exact absurd (by rw [hki]) hk
       · have := h.brk hb.1 k k1 k2 hko
         simp only [reduceCtorEq, if_false] at this
         exact this
   · obtain ⟨c1, c2⟩ := h.cf D hD
     refine ⟨?_, c2⟩
     have := hD.pops i hp2
     have := c2 i hil hi0
     simp only [c1, Bool.false_or, decide_eq_false_iff_not]
     omega
   · have := h.dle.1
     simp only
     omega
   · simp only at k2 k3 ⊢
     rcases back k k3 with hki | hko
     · rw [hki]; omega
     · have := h.dle.2 k k1 k2 hko; omega
   · simp only
     by_cases hm : aft c i (gD a.ds i - 1) <= a.depth
     · rcases h.dat with hd | ⟨k, k1, k2, k3, k4⟩
       · exact .inl (by omega)
       · exact .inr ⟨k, k1, k2, fun hh => k3 (by rw [ho]; simp [hh]), by omega⟩
     · exact .inr ⟨i, hil, hi0, hir, by omega⟩
 have h1 := (fold_inv (sucs c i) [] _ (aft c i (gD a.ds i - 1)) h0 rfl (fun j hj => ⟨hj, hf i hil j hj⟩)).1
 rw [List.nil_append] at h1
 unfold stp
 refine ⟨h1.len, h1.nodup, h1.opn, h1.pos, h1.ent, fun k hk => (by cases hk), fun k k1 k2 k3 x hx => ?_, h1.fal, fun hb k k1 k2 k3 => ?_, h1.cf, h1.dle, h1.dat⟩
 · have := h1.done k k1 k2 k3
   simp only [reduceCtorEq, if_false] at hx
   by_cases hk : some i = some k
   · rw [if_pos hk] at this
     exact this x (by rw [Option.some.inj hk]; exact hx)
   · rw [if_neg hk] at this
     exact this x hx
 · have := h1.brk hb k k1 k2 k3
   simp only [reduceCtorEq, if_false]
   by_cases hk : some i = some k
   · have hik : i = k := Option.some.inj hk
     subst hik
     rw [if_pos rfl] at this
     exact this
   · rw [if_neg hk] at this
     exact this
def an0 (c : Cd) (e : Nat) : An := ⟨false, false, 0, (List.replicate c.length 0).set e 1, [e]⟩
theorem gD_zero (n i : Nat) : gD (List.replicate n 0) i = 0 := by
 simp only [gD, List.getD_eq_getElem?_getD, List.getElem?_replicate]
 split <;> rfl
theorem an0_inv {c : Cd} {e : Nat} (he : e < c.length) : Inv c e none [] (an0 c e) := by
 have hse : gD ((List.replicate c.length 0).set e 1) e = 1 := gD_set_eq (by simpa using he)
 have hne : ∀ i, gD ((List.replicate c.length 0).set e 1) i ≠ 0 -> i = e := fun i hi => by
   by_cases h : e = i
   · exact h.symm
   · rw [gD_set_ne h, gD_zero] at hi; exact absurd rfl hi
 unfold an0
 refine ⟨by simp, by simp, fun i hi => ?_, fun i _ hi => ?_, hse, fun i hi => (by cases hi), fun i _ h2 h3 => ?_, fun h => (by simp at h), fun _ i _ h2 h3 => ?_, fun D hD => ⟨rfl, fun i _ h2 => ?_⟩, ⟨by simp, fun i _ h2 h3 => ?_⟩, .inl rfl⟩
 · simp only [List.mem_singleton] at hi
   rw [hi]; exact ⟨he, by rw [hse]; omega⟩
 · rw [hne i hi, hse]; exact ⟨by omega, Reach.here⟩
 · exact absurd (by simp [hne i h2]) h3
 · exact absurd (by simp [hne i h2]) h3
 · rw [hne i h2, hse, hD.zero]; rfl
 · exact absurd (by simp [hne i h2]) h3
theorem fin_inv {c : Cd} {e : Nat} {a : An} (he : e < c.length) (h : Inv c e none [] a) (ho : a.op = []) :
   (a.falls = true ↔ Falls c e) /\ (a.breaks = false ↔ ∃ D, CF c e D) /\ ∀ D, CF c e D -> Most c e D a.depth := by
 have hno : ∀ i, i ∉ a.op := fun i => by rw [ho]; simp
 have hall : ∀ i, Reach c e i -> gD a.ds i ≠ 0 := fun i hi => by
   induction hi with
   | here => rw [h.ent]; omega
   | go hi hl hj hjl ih =>
     have := h.done _ hl ih (hno _)
     simp only [reduceCtorEq, if_false] at this
     have := (this _ hj).2 (by omega)
     simpa using this
 refine ⟨⟨h.fal, fun ⟨i, hi, hj⟩ => ?_⟩, ⟨fun hb => ⟨fun i => gD a.ds i - 1, ?_, fun i hi => ?_, fun i hi j hj hjl => ?_⟩, fun ⟨D, hD⟩ => (h.cf D hD).1⟩, fun D hD => ⟨h.dle.1, fun i hi => ?_, ?_⟩⟩
 · have := h.done i (hi.lt he) (hall i hi) (hno i)
   simp only [reduceCtorEq, if_false] at this
   exact (this _ hj).1 rfl
 · rw [h.ent]; rfl
 · exact (h.brk hb i (hi.lt he) (hall i hi) (hno i)).1
 · have := (h.brk hb i (hi.lt he) (hall i hi) (hno i)).2
   simp only [reduceCtorEq, if_false] at this
   have := this _ hj (by omega)
   simp only [Int.toNat_natCast] at this
   omega
 · have h2 := (h.cf D hD).2 i (hi.lt he) (hall i hi)
   have := h.dle.2 i (hi.lt he) (hall i hi) (hno i)
   rw [h2, show D i + 1 - 1 = D i by omega] at this
   exact this
 · rcases h.dat with h0 | ⟨i, h1, h2, _, h4⟩
   · exact .inl h0
   · refine .inr ⟨i, (h.pos i h1 h2).2, ?_⟩
     rw [h4, (h.cf D hD).2 i h1 h2, show D i + 1 - 1 = D i by omega]
def mu (a : An) : Nat := 2 * a.ds.count 0 + a.op.length
theorem count_set {l : List Int} {i : Nat} {v : Int} (hi : i < l.length) (h0 : gD l i = 0) (hv : v ≠ 0) : (l.set i v).count 0 + 1 = l.count 0 := by
 have hx : l[i] = 0 := by simpa [gD, List.getD_eq_getElem?_getD, hi] using h0
 rw [List.count_set hi]
 have hp : 0 < l.count 0 := List.count_pos_iff.2 (by rw [<- hx]; exact List.getElem_mem hi)
 simp [hx, hv]
 omega
theorem one_mu {n : Nat} {d : Int} {a : An} {j : Int} (hl : a.ds.length = n) (hj : 0 <= j /\ j <= n) : mu (one n d a j) <= mu a /\ (one n d a j).ds.length = n := by
 unfold one
 by_cases hn : j = n
 · rw [if_pos hn]; exact ⟨Nat.le_refl _, hl⟩
 · rw [if_neg hn]
   by_cases h0 : gD a.ds j.toNat = 0
   · rw [if_pos h0]
     refine ⟨?_, by simp [hl]⟩
     have := count_set (v := max d 0 + 1) (by omega) h0 (by omega)
     unfold mu
     simp only [List.length_append, List.length_singleton]
     omega
   · rw [if_neg h0]
     split <;> exact ⟨Nat.le_refl _, hl⟩
theorem fold_mu {n : Nat} {d : Int} : ∀ (l : List Int) (a : An), a.ds.length = n -> (∀ j ∈ l, 0 <= j /\ j <= n) -> mu (l.foldl (one n d) a) <= mu a
 | [], a, _, _ => Nat.le_refl _
 | j :: l, a, hl, hj => by
   obtain ⟨h1, h2⟩ := one_mu (d := d) hl (hj j (by simp))
   exact Nat.le_trans (fold_mu l _ h2 (fun x hx => hj x (by simp [hx]))) h1
theorem stp_mu {c : Cd} {i : Nat} {r : List Nat} {a : An} (hf : Fits c) (hl : a.ds.length = c.length) (hi : i < c.length) (ho : a.op = r ++ [i]) : mu (stp c a i r) < mu a := by
 unfold stp
 refine Nat.lt_of_le_of_lt (fold_mu _ _ (by simpa using hl) (hf i hi)) ?_
 simp only [mu, ho, List.length_append, List.length_singleton]
 omega
end Go.Pm.Gr
end SP2
section SP3
namespace Go.Pm.Gr
structure Rs where
 out : List Int
 ok : Bool
 ch : Bool
def rone (n : Nat) (d : Int) (s : Rs) (j : Int) : Rs :=
 if (n : Int) <= j then s
 else if gD s.out j.toNat < 0 then { s with out := s.out.set j.toNat d, ch := true }
 else if gD s.out j.toNat ≠ d then { s with ok := false }
 else s
def lft (c : Cd) (i : Nat) (x : Int) : Int := (if x - popI (opA c i) < 0 then 0 else x - popI (opA c i)) + pushI (opA c i)
def rins (c : Cd) (s : Rs) (i : Nat) : Rs :=
 if gD s.out i < 0 then s
 else (sucs c i).foldl (rone c.length (lft c i (gD s.out i))) { s with ok := if gD s.out i - popI (opA c i) < 0 then false else s.ok }
structure RI (c : Cd) (e : Nat) (s : Rs) : Prop where
 len : s.out.length = c.length
 ent : gD s.out e = 0
 rch : ∀ i, i < c.length -> 0 <= gD s.out i -> Reach c e i
 cf : ∀ D, CF c e D -> s.ok = true /\ ∀ i, i < c.length -> 0 <= gD s.out i -> gD s.out i = D i
theorem rone_RI {c : Cd} {e i : Nat} {d : Int} {s : Rs} {j : Int} (h : RI c e s) (hi : Reach c e i) (hil : i < c.length) (hs : j ∈ sucs c i) (hj : 0 <= j) (hd : 0 <= d) (hD : ∀ D, CF c e D -> d = aft c i (D i)) :
   RI c e (rone c.length d s j) /\ ∀ k, 0 <= gD s.out k -> gD (rone c.length d s j).out k = gD s.out k := by
 unfold rone
 by_cases hn : (c.length : Int) <= j
 · rw [if_pos hn]; exact ⟨h, fun _ _ => rfl⟩
 · rw [if_neg hn]
   have hjl : j.toNat < c.length := by omega
   have hjs : ((j.toNat : Nat) : Int) ∈ sucs c i := by rw [show ((j.toNat : Nat) : Int) = j by omega]; exact hs
   have hjr : Reach c e j.toNat := Reach.go hi hil hjs hjl
   by_cases h0 : gD s.out j.toNat < 0
   · rw [if_pos h0]
     have hnew : gD (s.out.set j.toNat d) j.toNat = d := gD_set_eq (by rw [h.len]; exact hjl)
     have hold : ∀ k, k ≠ j.toNat -> gD (s.out.set j.toNat d) k = gD s.out k := fun k hk => gD_set_ne (Ne.symm hk)
     have hge : ∀ k, 0 <= gD s.out k -> gD (s.out.set j.toNat d) k = gD s.out k := fun k hk => hold k (fun hh => by rw [hh] at hk; omega)
     refine ⟨⟨by simp [h.len], ?_, fun k k1 k2 => ?_, fun D hC => ⟨(h.cf D hC).1, fun k k1 k2 => ?_⟩⟩, hge⟩
     · simp only; rw [hge e (by rw [h.ent]; omega)]; exact h.ent
     · simp only at k2
       by_cases hk : k = j.toNat
       · rw [hk]; exact hjr
       · rw [hold k hk] at k2; exact h.rch k k1 k2
     · simp only at k2 ⊢
       by_cases hk : k = j.toNat
       · rw [hk, hnew, hC.step i hi j.toNat hjs hjl]; exact hD D hC
       · rw [hold k hk] at k2 ⊢; exact (h.cf D hC).2 k k1 k2
   · rw [if_neg h0]
     by_cases hne : gD s.out j.toNat ≠ d
     · rw [if_pos hne]
       refine ⟨⟨h.len, h.ent, h.rch, fun D hC => ?_⟩, fun _ _ => rfl⟩
       exfalso
       apply hne
       rw [(h.cf D hC).2 j.toNat hjl (by omega), hC.step i hi j.toNat hjs hjl]
       exact (hD D hC).symm
     · rw [if_neg hne]; exact ⟨h, fun _ _ => rfl⟩
theorem fold_RI {c : Cd} {e i : Nat} {d : Int} (hi : Reach c e i) (hil : i < c.length) (hd : 0 <= d) (hD : ∀ D, CF c e D -> d = aft c i (D i)) : ∀ (l : List Int) (s : Rs), (∀ j ∈ l, j ∈ sucs c i /\ 0 <= j) -> RI c e s ->
   RI c e (l.foldl (rone c.length d) s)
 | [], s, _, h => h
 | j :: l, s, hl, h => fold_RI hi hil hd hD l _ (fun x hx => hl x (by simp [hx])) (rone_RI h hi hil (hl j (by simp)).1 (hl j (by simp)).2 hd hD).1
theorem lft_nonneg (c : Cd) (i : Nat) (x : Int) : 0 <= lft c i x := by
 have := pushI_rng (opA c i)
 unfold lft
 split <;> omega
theorem rins_RI {c : Cd} {e i : Nat} {s : Rs} (hf : Fits c) (h : RI c e s) (hil : i < c.length) : RI c e (rins c s i) := by
 unfold rins
 by_cases h0 : gD s.out i < 0
 · rw [if_pos h0]; exact h
 · rw [if_neg h0]
   have hi := h.rch i hil (by omega)
   refine fold_RI hi hil (lft_nonneg _ _ _) (fun D hC => ?_) _ _ (fun j hj => ⟨hj, (hf i hil j hj).1⟩) ⟨h.len, h.ent, h.rch, fun D hC => ⟨?_, (h.cf D hC).2⟩⟩
   · have := hC.pops i hi
     rw [(h.cf D hC).2 i hil (by omega)]
     unfold lft aft
     rw [if_neg (by omega)]
     omega
   · have := hC.pops i hi
     simp only
     rw [(h.cf D hC).2 i hil (by omega), if_neg (by omega)]
     exact (h.cf D hC).1
theorem rone_same {n : Nat} {d : Int} {s : Rs} {j : Int} (h : (rone n d s j).ch = false) :
   s.ch = false /\ (rone n d s j).out = s.out /\ ((rone n d s j).ok = true -> s.ok = true) /\ (j < n -> 0 <= gD s.out j.toNat /\ ((rone n d s j).ok = true -> gD s.out j.toNat = d)) := by
 unfold rone at h ⊢
 by_cases hn : (n : Int) <= j
 · rw [if_pos hn] at h ⊢; exact ⟨h, rfl, id, fun hl => by omega⟩
 · rw [if_neg hn] at h ⊢
   by_cases h0 : gD s.out j.toNat < 0
   · rw [if_pos h0] at h; simp at h
   · rw [if_neg h0] at h ⊢
     by_cases hne : gD s.out j.toNat ≠ d
     · rw [if_pos hne] at h ⊢; exact ⟨h, rfl, fun hh => by simp at hh, fun _ => ⟨by omega, fun hh => by simp at hh⟩⟩
     · rw [if_neg hne] at h ⊢; exact ⟨h, rfl, id, fun _ => ⟨by omega, fun _ => by omega⟩⟩
theorem fold_same {n : Nat} {d : Int} : ∀ (l : List Int) (s : Rs), (l.foldl (rone n d) s).ch = false ->
   s.ch = false /\ (l.foldl (rone n d) s).out = s.out /\ ((l.foldl (rone n d) s).ok = true -> s.ok = true) /\ ∀ j ∈ l, j < n -> 0 <= gD s.out j.toNat /\ ((l.foldl (rone n d) s).ok = true -> gD s.out j.toNat = d)
 | [], s, h => ⟨h, rfl, id, fun j hj => by simp at hj⟩
 | j :: l, s, h => by
   obtain ⟨a1, a2, a3, a4⟩ := fold_same l _ h
   obtain ⟨b1, b2, b3, b4⟩ := rone_same a1
   refine ⟨b1, a2.trans b2, fun hh => b3 (a3 hh), fun x hx hl => ?_⟩
   rcases List.mem_cons.1 hx with rfl | hx
   · exact ⟨(b4 hl).1, fun hh => (b4 hl).2 (a3 hh)⟩
   · have := a4 x hx hl
     rw [b2] at this
     exact this
def SC (c : Cd) (k : Nat) (s : Rs) : Prop :=
 s.ch = false -> ∀ i, i < k -> i < c.length -> 0 <= gD s.out i -> (∀ j ∈ sucs c i, j < c.length -> 0 <= gD s.out j.toNat) /\ (s.ok = true -> popI (opA c i) <= gD s.out i /\ ∀ j ∈ sucs c i, j < c.length -> gD s.out j.toNat = aft c i (gD s.out i))
theorem rins_SC {c : Cd} {k : Nat} {s : Rs} (h : SC c k s) : SC c (k + 1) (rins c s k) := by
 intro hc i hi hil hp
 unfold rins at hc hp ⊢
 by_cases h0 : gD s.out k < 0
 · rw [if_pos h0] at hc hp ⊢
   have hik : i ≠ k := fun hh => by rw [hh] at hp; omega
   exact h hc i (by omega) hil hp
 · rw [if_neg h0] at hc hp ⊢
   obtain ⟨a1, a2, a3, a4⟩ := fold_same _ _ hc
   simp only at a1 a2 a4
   rw [a2] at hp ⊢
   by_cases hik : i = k
   · subst hik
     refine ⟨fun j hj hl => (a4 j hj hl).1, fun hok => ?_⟩
     have := a3 hok
     simp only at this
     by_cases hn : gD s.out i - popI (opA c i) < 0
     · rw [if_pos hn] at this; simp at this
     · refine ⟨by omega, fun j hj hl => ?_⟩
       rw [(a4 j hj hl).2 hok]
       unfold lft aft
       rw [if_neg hn]
       omega
   · obtain ⟨b1, b2⟩ := h a1 i (by omega) hil hp
     refine ⟨b1, fun hok => b2 ?_⟩
     have := a3 hok
     simp only at this
     by_cases hn : gD s.out k - popI (opA c k) < 0
     · rw [if_pos hn] at this; simp at this
     · rw [if_neg hn] at this; exact this
def ng (s : Rs) : Nat := s.out.countP (fun x => decide (x < 0))
theorem countP_set {l : List Int} {i : Nat} {v : Int} (hi : i < l.length) (h0 : gD l i < 0) (hv : 0 <= v) : (l.set i v).countP (fun x => decide (x < 0)) + 1 = l.countP (fun x => decide (x < 0)) := by
 have hx : l[i] < 0 := by simpa [gD, List.getD_eq_getElem?_getD, hi] using h0
 rw [List.countP_set hi]
 have hp : 0 < l.countP (fun x => decide (x < 0)) := List.countP_pos_iff.2 ⟨l[i], List.getElem_mem hi, by simpa using hx⟩
 have hv' : ¬ v < 0 := by omega
 simp [hx, hv']
 omega
theorem rone_ng {n : Nat} {d : Int} {s : Rs} {j : Int} (hl : s.out.length = n) (hj : 0 <= j) (hd : 0 <= d) : ng (rone n d s j) <= ng s /\ ((rone n d s j).ch = true -> s.ch = true \/ ng (rone n d s j) < ng s) /\ (rone n d s j).out.length = n := by
 unfold rone
 by_cases hn : (n : Int) <= j
 · rw [if_pos hn]; exact ⟨Nat.le_refl _, .inl, hl⟩
 · rw [if_neg hn]
   by_cases h0 : gD s.out j.toNat < 0
   · rw [if_pos h0]
     have := countP_set (v := d) (by omega) h0 hd
     unfold ng
     exact ⟨by simp only; omega, fun _ => .inr (by simp only; omega), by simp [hl]⟩
   · rw [if_neg h0]
     split <;> exact ⟨Nat.le_refl _, .inl, hl⟩
theorem fold_ng {n : Nat} {d : Int} (hd : 0 <= d) : ∀ (l : List Int) (s : Rs), s.out.length = n -> (∀ j ∈ l, 0 <= j) -> ng (l.foldl (rone n d) s) <= ng s /\ ((l.foldl (rone n d) s).ch = true -> s.ch = true \/ ng (l.foldl (rone n d) s) < ng s) /\ (l.foldl (rone n d) s).out.length = n
 | [], s, h, _ => ⟨Nat.le_refl _, .inl, h⟩
 | j :: l, s, h, hj => by
   obtain ⟨a1, a2, a3⟩ := rone_ng (d := d) h (hj j (by simp)) hd
   obtain ⟨b1, b2, b3⟩ := fold_ng hd l _ a3 (fun x hx => hj x (by simp [hx]))
   refine ⟨Nat.le_trans b1 a1, fun hh => ?_, b3⟩
   rcases b2 hh with hb | hb
   · rcases a2 hb with ha | ha
     · exact .inl ha
     · right; simp only [List.foldl_cons]; omega
   · right; simp only [List.foldl_cons]; omega
theorem rins_ng {c : Cd} {s : Rs} {i : Nat} (hf : Fits c) (hl : s.out.length = c.length) (hi : i < c.length) : ng (rins c s i) <= ng s /\ ((rins c s i).ch = true -> s.ch = true \/ ng (rins c s i) < ng s) /\ (rins c s i).out.length = c.length := by
 unfold rins
 split
 · exact ⟨Nat.le_refl _, .inl, hl⟩
 · exact fold_ng (lft_nonneg _ _ _) _ { s with ok := if gD s.out i - popI (opA c i) < 0 then false else s.ok } hl (fun j hj => (hf i hi j hj).1)
def out0 (c : Cd) (e : Nat) : List Int := (List.replicate c.length (-1)).set e 0
theorem out0_RI {c : Cd} {e : Nat} (he : e < c.length) : RI c e ⟨out0 c e, true, false⟩ := by
 have hse : gD (out0 c e) e = 0 := gD_set_eq (by simpa using he)
 have hne : ∀ i, i < c.length -> 0 <= gD (out0 c e) i -> i = e := fun i hl hi => by
   by_cases h : e = i
   · exact h.symm
   · unfold out0 at hi
     rw [gD_set_ne h] at hi
     simp [gD, List.getD_eq_getElem?_getD, List.getElem?_replicate, hl] at hi
 refine ⟨by simp [out0], hse, fun i hl hi => by rw [hne i hl hi]; exact Reach.here, fun D hC => ⟨rfl, fun i hl hi => ?_⟩⟩
 rw [hne i hl hi, hC.zero]
 exact hse
theorem fin_RI {c : Cd} {e : Nat} {s : Rs} (he : e < c.length) (hf : Fits c) (h : RI c e s) (hs : SC c c.length s) (hc : s.ch = false) :
   (∀ i, i < c.length -> (0 <= gD s.out i ↔ Reach c e i)) /\ (s.ok = true ↔ ∃ D, CF c e D) /\ ∀ D, CF c e D -> ∀ i, Reach c e i -> gD s.out i = D i := by
 have hall : ∀ i, Reach c e i -> 0 <= gD s.out i := fun i hi => by
   induction hi with
   | here => rw [h.ent]; omega
   | go hi hl hj hjl ih =>
     have := (hs hc _ hl hl ih).1 _ hj (by omega)
     simpa using this
 refine ⟨fun i hl => ⟨h.rch i hl, hall i⟩, ⟨fun hok => ⟨fun i => gD s.out i, h.ent, fun i hi => ?_, fun i hi j hj hjl => ?_⟩, fun ⟨D, hD⟩ => (h.cf D hD).1⟩, fun D hD i hi => (h.cf D hD).2 i (hi.lt he) (hall i hi)⟩
 · exact ((hs hc i (hi.lt he) (hi.lt he) (hall i hi)).2 hok).1
 · have := ((hs hc i (hi.lt he) (hi.lt he) (hall i hi)).2 hok).2 _ hj (by omega)
   simpa using this
end Go.Pm.Gr
end SP3
section SP4
namespace Go.Pm.Gr
structure AnaRes (c : Cd) (e : Nat) (fl br : Bool) (dp : Int) : Prop where
 fal : fl = true ↔ Falls c e
 brk : br = false ↔ ∃ D, CF c e D
 most : ∀ D, CF c e D -> Most c e D dp
structure RefRes (c : Cd) (e : Nat) (out : List Int) (ok : Bool) : Prop where
 len : out.length = c.length
 rch : ∀ i, i < c.length -> (0 <= gD out i ↔ Reach c e i)
 ok_ : ok = true ↔ ∃ D, CF c e D
 val : ∀ D, CF c e D -> ∀ i, Reach c e i -> gD out i = D i
def rmax (c : Cd) (out : List Int) : Nat -> Int
 | 0 => 0
 | k + 1 => if 0 <= gD out k then max (max (rmax c out k) (gD out k)) (aft c k (gD out k)) else rmax c out k
theorem rmax_nonneg (c : Cd) (out : List Int) (k : Nat) : 0 <= rmax c out k := by
 induction k with
 | zero => exact Int.le_refl _
 | succ k ih => unfold rmax; split <;> omega
theorem rmax_le (c : Cd) (out : List Int) (k : Nat) : ∀ i, i < k -> 0 <= gD out i -> gD out i <= rmax c out k /\ aft c i (gD out i) <= rmax c out k := by
 induction k with
 | zero => intro i hi; omega
 | succ k ih =>
   intro i hi h0
   unfold rmax
   by_cases hik : i = k
   · subst hik; rw [if_pos h0]; omega
   · have := ih i (by omega) h0
     split <;> omega
theorem rmax_at (c : Cd) (out : List Int) (k : Nat) : rmax c out k = 0 \/ ∃ i, i < k /\ 0 <= gD out i /\ (rmax c out k = gD out i \/ rmax c out k = aft c i (gD out i)) := by
 induction k with
 | zero => exact .inl rfl
 | succ k ih =>
   unfold rmax
   by_cases h0 : 0 <= gD out k
   · rw [if_pos h0]
     by_cases h1 : max (rmax c out k) (gD out k) <= aft c k (gD out k)
     · exact .inr ⟨k, by omega, h0, .inr (by omega)⟩
     · by_cases h2 : rmax c out k <= gD out k
       · exact .inr ⟨k, by omega, h0, .inl (by omega)⟩
       · rcases ih with h | ⟨i, hi, hp, h⟩
         · left; omega
         · exact .inr ⟨i, by omega, hp, by omega⟩
   · rw [if_neg h0]
     rcases ih with h | ⟨i, hi, hp, h⟩
     · exact .inl h
     · exact .inr ⟨i, by omega, hp, h⟩
theorem rmax_most {c : Cd} {e : Nat} {out : List Int} {ok : Bool} (he : e < c.length) (h : RefRes c e out ok) (D : Nat -> Int) (hD : CF c e D) : Most c e D (rmax c out c.length) := by
 have hv : ∀ i, Reach c e i -> 0 <= gD out i /\ gD out i = D i := fun i hi => ⟨(h.rch i (hi.lt he)).2 hi, h.val D hD i hi⟩
 refine ⟨rmax_nonneg _ _ _, fun i hi => ?_, ?_⟩
 · have := (rmax_le c out c.length i (hi.lt he) (hv i hi).1).2
   rw [(hv i hi).2] at this
   exact this
 · rcases rmax_at c out c.length with h0 | ⟨i, hil, hp, h1⟩
   · exact .inl h0
   · have hi := (h.rch i hil).1 hp
     rw [(hv i hi).2] at h1
     rcases h1 with h1 | h1
     · cases hi with
       | here => left; rw [h1, hD.zero]
       | go hk hkl hj hjl =>
         rename_i k
         exact .inr ⟨k, hk, by rw [h1]; exact hD.step _ hk _ hj hjl⟩
     · exact .inr ⟨i, hi, h1⟩
end Go.Pm.Gr
end SP4
