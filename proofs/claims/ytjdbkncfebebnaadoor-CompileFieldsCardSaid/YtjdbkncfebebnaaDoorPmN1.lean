/- Chapter 15: the analysis of code, walked. Chapter 15: the analysis of code, walked: the loops. Chapter 15: the analysis of code, its contract. -/
import Derived.Test.YtjdbkncfebebnaaDoorPmW
import Derived.Test.YtjdbkncfebebnaaDoorPmTb14
import Derived.Test.YtjdbkncfebebnaaDoorPmP2
import Derived.KernelRfl
set_option linter.unusedSimpArgs false
set_option linter.unusedVariables false
section SN1
namespace Go.Pm
open F Gr
def icC (c : Cd) : List D := c.flatMap fun x => [.lit (.int .i64 x.1), .lit (.int .i64 x.2)]
@[simp] theorem icC_length (c : Cd) : (icC c).length = c.length * 2 := by
 induction c with
 | nil => rfl
 | cons x c ih => simp only [icC, List.flatMap_cons, List.length_append, List.length_cons, List.length_nil] at ih ⊢; omega
theorem icC_append (a b : Cd) : icC (a ++ b) = icC a ++ icC b := by simp [icC]
theorem icC_drop (c : Cd) (i : Nat) : (icC c).drop (i * 2) = icC (c.drop i) := by
 induction i generalizing c with
 | zero => simp
 | succ i ih =>
   cases c with
   | nil => simp [icC]
   | cons x c =>
     rw [show (i + 1) * 2 = i * 2 + 2 by omega]
     simp only [icC, List.flatMap_cons, List.cons_append, List.nil_append, List.drop_succ_cons] at ih ⊢
     exact ih c
theorem cut2_icC (c : Cd) (i : Nat) (h : i < c.length) : cutCells (icC c) (i * 2) 2 = some [.lit (.int .i64 (opA c i)), .lit (.int .i64 (nA c i))] := by
 unfold cutCells
 rw [icC_drop, List.drop_eq_getElem_cons h]
 have e : icC (c[i] :: c.drop (i + 1)) = .lit (.int .i64 c[i].1) :: .lit (.int .i64 c[i].2) :: icC (c.drop (i + 1)) := rfl
 have e1 : opA c i = c[i].1 := by simp [opA, List.getD_eq_getElem?_getD, h]
 have e2 : nA c i = c[i].2 := by simp [nA, List.getD_eq_getElem?_getD, h]
 rw [e, e1, e2]
 rfl
theorem cut1_icC (c : Cd) (i : Nat) (h : i < c.length) : cutCells (icC c) (i * 2) 1 = some [.lit (.int .i64 (opA c i))] := by
 unfold cutCells
 rw [icC_drop, List.drop_eq_getElem_cons h]
 have e : icC (c[i] :: c.drop (i + 1)) = .lit (.int .i64 c[i].1) :: .lit (.int .i64 c[i].2) :: icC (c.drop (i + 1)) := rfl
 have e1 : opA c i = c[i].1 := by simp [opA, List.getD_eq_getElem?_getD, h]
 rw [e, e1]
 rfl
structure IsCode (d : D) (c : Cd) : Prop where
 len : ∀ σ, V.len σ .sl (.dat d) = some c.length
 at_ : ∀ i : Int, 0 <= i -> i < c.length -> sliceAddr 2 (.dat d) i = some (.dat (.imm (icC c) (i.toNat * 2)))
 one : V.one (.dat d) = true
 cells : V.cells (.dat d) = [.dat d]
theorem isCode_sl (c : Cd) (f : Bool) : IsCode (.sl (icC c) c.length f) c where
 len := fun _ => rfl
 at_ := fun i h0 h1 => by simp [sliceAddr, h0, h1]
 one := rfl
 cells := rfl
theorem isCode_nil : IsCode (.lit (.slice none 0 0)) [] where
 len := fun _ => rfl
 at_ := fun i h0 h1 => by simp at h1; omega
 one := rfl
 cells := rfl
def pgD (d : D) (e0 e1 e2 : Int) : V := .dat (.agg [d, .lit (.int .i64 e0), .lit (.int .i64 e1), .lit (.int .i64 e2)])
def sucD (c : Cd) (i : Nat) : D := if opA c i = 21 then .lit (.slice none 0 0) else .sl (intsC (sucs c i)) (sucs c i).length true
theorem sucD_row (c : Cd) (i : Nat) : IsRow (sucD c i) (sucs c i) := by
 unfold sucD
 by_cases h : opA c i = 21
 · rw [if_pos h]
   have : sucs c i = [] := by unfold sucs; rw [if_pos h]
   rw [this]
   exact isRow_nil none
 · rw [if_neg h]; exact isRow_sl _ true
section
variable {d : D} {c : Cd} {e0 e1 e2 : Int} {i : Nat}
theorem sucs_Z (hd : IsCode d c) (hi : i < c.length) (hi2 : i < 2^40) : Z base15 (.call 164 [pgD d e0 e1 e2, .int i] []) = some (.ret (.dat (sucD c i)) []) := by
 have h1 := hd.at_ i (by omega) (by omega)
 rw [show ((i : Int)).toNat = i by omega] at h1
 have h2 := cut2_icC c i hi
 have w1 := wrap64 ((i : Int) + 1) (by omega)
 have ho := hd.one
 have hc := hd.cells
 refine Z_call (pf := F164) rfl rfl ?_
 unfold sucD sucs
 generalize opA c i = op at *
 generalize nA c i = n at *
 by_cases k1 : op = 21
 · simp [F164, pgD, List.range_succ, h1, h2, k1, ho, hc]
 · by_cases k2 : op = 18
   · simp [F164, pgD, List.range_succ, h1, h2, k1, k2, ho, hc, intsC]
   · by_cases k3 : op = 19
     · simp [F164, pgD, List.range_succ, h1, h2, k1, k2, k3, w1, ho, hc, intsC]
     · simp [F164, pgD, List.range_succ, h1, h2, k1, k2, k3, w1, ho, hc, intsC]
end
def aS (d : D) (e0 e1 e2 : Int) (a : An) : S :=
 [.cells [.dat d, .int e0, .int e1, .int e2], .cells [.bool false, .bool false, .int 0], .cells [.bool a.falls, .bool a.breaks, .int a.depth], .cells (ints a.ds), .vec (ints (a.op.map fun (i : Nat) => (i : Int)))]
def bFr (n m : Nat) (dp : Int) (r : D) (len k : Nat) : Fr := [(2, .ptr 0 0), (4, .ptr 1 0), (5, .ptr 2 0), (6, .msl 3 0 n n 1), (7, .own 4 m 1), (10, .int dp), (68, .dat r), (69, .int len), (70, .int k)]
def aFr (n m : Nat) : Fr := [(2, .ptr 0 0), (4, .ptr 1 0), (5, .ptr 2 0), (6, .msl 3 0 n n 1), (7, .own 4 m 1)]
section
variable {d : D} {c : Cd} {e0 e1 e2 : Int} {a : An} {r : D} {l : List Int} {k : Nat} {dp : Int}
theorem bstep15 (hd : IsCode d c) (hr : IsRow r l) (hk : k < l.length) (hk2 : k < 100) (hl : a.ds.length = c.length) (hcl : c.length < 2^30) (hol : a.op.length < 2^30) (hj : 0 <= l[k] /\ l[k] <= c.length) (hdp : -10 <= dp /\ dp < 2^40):
   Z base15 (.loop 0 F139l1 (bFr c.length a.op.length dp r l.length k) (aS d e0 e1 e2 a)) = Z base15 (.loop 0 F139l1 (bFr c.length (Gr.one c.length dp a l[k]).op.length dp r l.length (k + 1)) (aS d e0 e1 e2 (Gr.one c.length dp a l[k]))) := by
 have h1 := hr.at_ k (by omega) (by omega)
 rw [show ((k : Int)).toNat = k by omega] at h1
 have h2 := cut1_intsC l k hk
 have h2' : getN l k = l[k] := by simp [getN, List.getD_eq_getElem?_getD, hk]
 rw [h2'] at h2
 have hk' : (k : Int) < l.length := by omega
 have w1 := wrap64 ((k : Int) + 1) (by omega)
 have w2 := wrap64 (dp + 1) (by omega)
 have hlen := hd.len
 have ho := hd.one
 have hc := hd.cells
 unfold Gr.one
 generalize l[k] = j at *
 obtain ⟨fl, br, depth, ds, op⟩ := a
 simp only at hl hol ⊢
 have S1 : ∀ (x : D), x = x := fun _ => rfl
 by_cases hn : j = c.length
 · subst hn
   rw [Z_loop_eq]
   simp [loopStep, run_F139l1, bFr, aS, List.range_succ, hlen, h1, h2, hk', w1, ho, hc]
 · rw [if_neg hn]
   have hm : sliceAddr 1 (.msl 3 0 c.length c.length 1) j = some (.ptr 3 j.toNat) := by
     have a1 : 0 <= j := hj.1
     have a2 : j < c.length := by omega
     simp [sliceAddr, a1, a2]
   have hu := cut_own (cs := ds) j (gD ds j.toNat) hj.1 (by omega) rfl
   have hjn : (j.toNat : Int) = j := by omega
   have hse : ∀ v, (ints ds).take j.toNat ++ (V.int v :: (ints ds).drop (j.toNat + 1)) = ints (ds.set j.toNat v) := fun v => set_ints ds j.toNat v (by omega)
   have hjl : j.toNat + 1 <= ds.length := by omega
   by_cases h0 : gD ds j.toNat = 0
   · rw [if_pos h0]
     have hr8 : roomFor (op.length + 1) 8 = true := by simp [roomFor]; omega
     have hap : ints (op.map fun (i : Nat) => (i : Int)) ++ [V.int j] = ints ((op ++ [j.toNat]).map fun (i : Nat) => (i : Int)) := by simp [ints, hjn]
     have wone : IntKind.i64.wrap 1 = 1 := rfl
     have hmj : max j 0 = j := by omega
     have hap2 : ∀ X, ints X ++ [V.int j] = ints (X ++ [j]) := fun X => by simp [ints]
     by_cases hneg : dp < 0
     · have hmx : max dp 0 + 1 = 1 := by omega
       rw [hmx, Z_loop_eq]
       simp [loopStep, run_F139l1, bFr, aS, List.range_succ, hlen, h1, h2, hk', w1, ho, hc, hn, hm, hu, h0, hse, hjl, hr8, lits, maxI, wone, hmj, hap2, hneg]
       refine Z_loop_cong ?_
       simp [List.range_succ, ho, hc]
     · have hmx : max dp 0 = dp := by omega
       rw [hmx, Z_loop_eq]
       simp [loopStep, run_F139l1, bFr, aS, List.range_succ, hlen, h1, h2, hk', w1, ho, hc, hn, hm, hu, h0, hse, hjl, hr8, lits, maxI, wone, hmj, hap2, hneg, w2]
       refine Z_loop_cong ?_
       simp [List.range_succ, ho, hc]
   · rw [if_neg h0]
     by_cases h3 : gD ds j.toNat = dp + 1
     · have h0' : ¬ dp + 1 = 0 := by omega
       rw [if_neg (by omega), Z_loop_eq]
       simp [loopStep, run_F139l1, bFr, aS, List.range_succ, hlen, h1, h2, hk', w1, w2, ho, hc, hn, hm, hu, h0, h3, h0']
     · rw [if_pos h3, Z_loop_eq]
       simp [loopStep, run_F139l1, bFr, aS, List.range_succ, hlen, h1, h2, hk', w1, w2, ho, hc, hn, hm, hu, h0, h3]
end
end Go.Pm
end SN1
section SN2
namespace Go.Pm
open F Gr
section
variable {d : D} {c : Cd} {e0 e1 e2 : Int} {r : D} {l : List Int} {dp : Int}
theorem bend15 (hd : IsCode d c) (a : An) : Z base15 (.loop 0 F139l1 (bFr c.length a.op.length dp r l.length l.length) (aS d e0 e1 e2 a)) = some (.out (.exit 2) (bFr c.length a.op.length dp r l.length l.length ++ [(71, .bool false)]) (aS d e0 e1 e2 a)) := by
 have ho := hd.one
 have hc := hd.cells
 obtain ⟨fl, br, depth, ds, op⟩ := a
 rw [Z_loop_eq]
 simp [loopStep, run_F139l1, bFr, aS, List.range_succ, ho, hc]
theorem one_len {n : Nat} {d : Int} {a : An} {j : Int} (hl : a.ds.length = n) : (Gr.one n d a j).ds.length = n /\ (Gr.one n d a j).op.length <= a.op.length + 1 := by
 unfold Gr.one
 split
 · exact ⟨hl, Nat.le_succ _⟩
 · split
   · exact ⟨by simp [hl], by simp⟩
   · split <;> exact ⟨hl, Nat.le_succ _⟩
theorem bloop15 (hd : IsCode d c) (hr : IsRow r l) (hl2 : l.length < 50) (hcl : c.length < 2^29) (hj : ∀ x ∈ l, 0 <= x /\ x <= c.length) (hdp : -10 <= dp /\ dp < 2^40) (m : Nat) : ∀ (k : Nat) (a : An), k + m = l.length -> a.ds.length = c.length -> a.op.length + m < 2^30 ->
   Z base15 (.loop 0 F139l1 (bFr c.length a.op.length dp r l.length k) (aS d e0 e1 e2 a)) = some (.out (.exit 2) (bFr c.length ((l.drop k).foldl (Gr.one c.length dp) a).op.length dp r l.length l.length ++ [(71, .bool false)]) (aS d e0 e1 e2 ((l.drop k).foldl (Gr.one c.length dp) a))) := by
 induction m with
 | zero =>
   intro k a hk ha ho
   have : k = l.length := by omega
   subst this
   rw [List.drop_length]
   exact bend15 hd a
 | succ m ih =>
   intro k a hk ha ho
   have hkl : k < l.length := by omega
   rw [List.drop_eq_getElem_cons hkl, List.foldl_cons]
   obtain ⟨q1, q2⟩ := one_len (n := c.length) (d := dp) (j := l[k]) ha
   rw [bstep15 hd hr hkl (by omega) ha (by omega) (by omega) (hj _ (List.getElem_mem hkl)) hdp]
   exact ih (k + 1) _ (by omega) q1 (by omega)
end
def F139a : PC := match F139l0 with | .seq a _ => a | _ => .skip
def F139b : PC := match F139l0 with | .seq _ b => b | _ => .skip
theorem F139a_eq : F139a = .seq (.region none [⟨some 22, .mov (.t 7), none, []⟩, ⟨some 23, .len .sl (.t 22), none, []⟩, ⟨some 24, .bin .gtr (.t 23) (.c (.int .i64 0)), none, []⟩] [2, 4, 5, 6, 7, 24]) (.cond (.t 24) (.skip) (.exit 0)) := rfl
theorem l0_extra (d : D) (e0 e1 e2 : Int) (a : An) (n m : Nat) (dp : Int) (r : D) (len k : Nat) (b : Bool) :
   Z base15 (.loop 0 F139l0 (bFr n m dp r len k ++ [(71, .bool b)]) (aS d e0 e1 e2 a)) = Z base15 (.loop 0 F139l0 (aFr n m) (aS d e0 e1 e2 a)) := by
 have e : F139l0 = .seq F139a F139b := rfl
 rw [Z_loop_eq, Z_loop_eq, e]
 simp [loopStep, F139a_eq, aFr, bFr, aS, List.range_succ, len_own]
theorem eff15 : ∀ op : Nat, 1 <= op -> op <= 21 -> cutCells G_arenanet_compile_effects (op * 2) 2 = some [.lit (.int .i64 (popI op)), .lit (.int .i64 (pushI op))] := by
 intro op h1 h2
 have : ∀ k : Fin 22, 1 <= k.val -> cutCells effRows15.flatten (k.val * 2) 2 = some [popI k.val, pushI k.val] := by decide
 have h := this ⟨op, by omega⟩ h1
 unfold G_arenanet_compile_effects
 unfold cutCells at h ⊢
 simp only at h ⊢
 rw [<- List.map_drop, <- List.map_take]
 split at h
 · rename_i hh
   simp only [Option.some.injEq] at h
   rw [if_pos (by rw [List.length_map]; exact hh), h]
   rfl
 · cases h
section
variable {d : D} {c : Cd} {e0 e1 e2 : Int}
set_option maxHeartbeats 4000000 in
theorem astep15 (hd : IsCode d c) (hf : Fits c) (hops : ∀ i, i < c.length -> 1 <= opA c i /\ opA c i <= 21) (hcl : c.length < 2^29) {a : An} {i : Nat} {r : List Nat} (ho : a.op = r ++ [i]) (hi : i < c.length) (hl : a.ds.length = c.length) (hol : a.op.length < 2^29) (hb : 1 <= gD a.ds i /\ gD a.ds i < 2^39) :
   Z base15 (.loop 0 F139l0 (aFr c.length a.op.length) (aS d e0 e1 e2 a)) = Z base15 (.loop 0 F139l0 (aFr c.length (stp c a i r).op.length) (aS d e0 e1 e2 (stp c a i r))) := by
 have hlen := hd.len
 have h1 := hd.one
 have h2 := hd.cells
 obtain ⟨op, hop⟩ : ∃ op : Nat, (op : Int) = opA c i := ⟨(opA c i).toNat, by have := hops i hi; omega⟩
 have hopr : 1 <= op /\ op <= 21 := by have := hops i hi; omega
 have heff := eff15 op hopr.1 hopr.2
 have hat := hd.at_ i (by omega) (by omega)
 rw [show ((i : Int)).toNat = i by omega] at hat
 have hcut := cut1_icC c i hi
 rw [<- hop] at hcut
 have hsu := sucs_Z (e0 := e0) (e1 := e1) (e2 := e2) hd hi (by omega)
 have hp := popI_rng (opA c i)
 have hq := pushI_rng (opA c i)
 have hslen : (sucs c i).length < 50 := by unfold sucs; split <;> (try split) <;> (try split) <;> simp
 have hdp : -10 <= aft c i (gD a.ds i - 1) /\ aft c i (gD a.ds i - 1) < 2^40 := by unfold aft; omega
 have hrow := sucD_row c i
 have hra : (aft c i (gD a.ds i - 1)) = gD a.ds i - 1 + (pushI (opA c i) - popI (opA c i)) := rfl
 have hloop := bloop15 (e0 := e0) (e1 := e1) (e2 := e2) hd hrow hslen hcl (fun x hx => hf i hi x hx) hdp (sucs c i).length 0 { a with breaks := a.breaks || decide (gD a.ds i - 1 < popI (opA c i)), depth := max a.depth (aft c i (gD a.ds i - 1)), op := r } (by omega) hl (by rw [ho] at hol; simp at hol ⊢; omega)
 rw [List.drop_zero] at hloop
 have hst : stp c a i r = (sucs c i).foldl (Gr.one c.length (aft c i (gD a.ds i - 1))) { a with breaks := a.breaks || decide (gD a.ds i - 1 < popI (opA c i)), depth := max a.depth (aft c i (gD a.ds i - 1)), op := r } := rfl
 rw [<- hst] at hloop
 have hr2 := hrow.len
 obtain ⟨R, hR⟩ : ∃ R, R = stp c a i r := ⟨_, rfl⟩
 rw [<- hR] at hloop ⊢
 clear hst
 obtain ⟨dp, hdpe⟩ : ∃ dp, dp = aft c i (gD a.ds i - 1) := ⟨_, rfl⟩
 rw [<- hdpe] at hloop hra
 obtain ⟨fl, br, depth, ds, aop⟩ := a
 simp only at ho hl hol hb hloop hdpe hra hdp
 subst ho
 have hm : sliceAddr 1 (.msl 3 0 c.length c.length 1) i = some (.ptr 3 i) := by
   have a2 : (i : Int) < c.length := by omega
   simp [sliceAddr, a2]
 have hu := cut_own' (cs := ds) i (gD ds i) (by omega) rfl
 have hown : sliceAddr 1 (.own 4 (r.length + 1) 1) (r.length : Int) = some (.eptr 4 (r.length + 1) r.length) := own_at 4 (r.length + 1) r.length (by omega)
 have hou : cutCells (ints (r.map (fun (i : Nat) => (i : Int)) ++ [(i : Int)])) r.length 1 = some [V.int i] := cut_own' r.length _ (by simp) (by simp [getN, List.getD_eq_getElem?_getD])
 have w1 : IntKind.i64.wrap (r.length : Int) = r.length := wrap64 _ (by simp at hol; omega)
 have w2 : IntKind.i64.wrap (gD ds i - 1) = gD ds i - 1 := wrap64 _ (by omega)
 have w3 : IntKind.i64.wrap (pushI op - popI op) = pushI op - popI op := by rw [hop]; exact wrap64 _ (by omega)
 have w4 : IntKind.i64.wrap (gD ds i - 1 + (pushI op - popI op)) = dp := by rw [hop, <- hra]; exact wrap64 _ (by omega)
 rw [<- hop] at hloop
 have bn1 : bound (some (V.int r.length)) (r.length + 1) (r.length + 1) = some r.length := by simp [bound]; omega
 have bn2 : ∀ h, bound none 0 h = some 0 := fun h => by simp [bound]
 have tk : (ints (r.map (fun (i : Nat) => (i : Int)) ++ [(i : Int)])).take r.length = ints (r.map fun (i : Nat) => (i : Int)) := by
   rw [take_ints]; congr 1; rw [List.take_append_of_le_length (by simp), List.take_of_length_le (by simp)]
 have gpos : 0 < (r.length : Int) + 1 := by omega
 have hir : (i : Int) < c.length := by omega
 have hop22 : (op : Int) < 22 := by omega
 have hol' : r.length + 1 < 2^29 := by simpa using hol
 simp only [pgD] at hsu
 have key : ∀ (BR : Bool) (DM : Int), BR = (br || decide (gD ds i - 1 < popI op)) -> DM = max depth dp ->
     Z base15 (.loop 0 F139l1 [(2, .ptr 0 0), (4, .ptr 1 0), (5, .ptr 2 0), (6, .msl 3 0 c.length c.length 1), (7, .own 5 r.length 1), (10, .int dp), (68, .dat (sucD c i)), (69, .int (sucs c i).length), (70, .int 0)]
       [.cells [.dat d, .int e0, .int e1, .int e2], .cells [.bool false, .bool false, .int 0], .cells [.bool fl, .bool BR, .int DM], .cells (ints ds), .dead, .vec (ints (r.map fun (i : Nat) => (i : Int))), .cells [.int (popI op), .int (pushI op)]]) =
     some (.out (.exit 2) (bFr c.length R.op.length dp (sucD c i) (sucs c i).length (sucs c i).length ++ [(71, .bool false)]) (aS d e0 e1 e2 R)) := fun BR DM e1' e2' => by
   rw [<- hloop]
   refine Z_loop_cong ?_
   rw [<- e1', <- e2']
   simp [bFr, aS, List.range_succ, h1, h2]
 have fin := l0_extra d e0 e1 e2 R c.length R.op.length dp (sucD c i) (sucs c i).length (sucs c i).length false
 by_cases hbr : gD ds i - 1 < popI op
 · by_cases hmx : depth < dp
   · have hl3 := key true dp (by simp [hbr]) (by omega)
     rw [Z_loop_eq, <- fin]
     simp only [bFr] at hl3 ⊢
     simp [loopStep, run_F139l0, aFr, aS, pgD, List.range_succ, hlen, h1, h2, hat, hcut, heff, hsu, hm, hu, hown, hou, w1, w2, w3, w4, hbr, hmx, lits, maxI, gpos, hop22, hr2, len_own, bn1, bn2, tk, hl3]
   · have hl3 := key true depth (by simp [hbr]) (by omega)
     rw [Z_loop_eq, <- fin]
     simp only [bFr] at hl3 ⊢
     simp [loopStep, run_F139l0, aFr, aS, pgD, List.range_succ, hlen, h1, h2, hat, hcut, heff, hsu, hm, hu, hown, hou, w1, w2, w3, w4, hbr, hmx, lits, maxI, gpos, hop22, hr2, len_own, bn1, bn2, tk, hl3]
 · by_cases hmx : depth < dp
   · have hl3 := key br dp (by simp [hbr]) (by omega)
     rw [Z_loop_eq, <- fin]
     simp only [bFr] at hl3 ⊢
     simp [loopStep, run_F139l0, aFr, aS, pgD, List.range_succ, hlen, h1, h2, hat, hcut, heff, hsu, hm, hu, hown, hou, w1, w2, w3, w4, hbr, hmx, lits, maxI, gpos, hop22, hr2, len_own, bn1, bn2, tk, hl3]
   · have hl3 := key br depth (by simp [hbr]) (by omega)
     rw [Z_loop_eq, <- fin]
     simp only [bFr] at hl3 ⊢
     simp [loopStep, run_F139l0, aFr, aS, pgD, List.range_succ, hlen, h1, h2, hat, hcut, heff, hsu, hm, hu, hown, hou, w1, w2, w3, w4, hbr, hmx, lits, maxI, gpos, hop22, hr2, len_own, bn1, bn2, tk, hl3]
end
end Go.Pm
end SN2
section SN3
namespace Go.Pm
open F Gr
theorem one_bnd {n : Nat} {dd b : Int} {a : An} {j : Int} (hd : dd <= b) (hb : 0 <= b) (h : ∀ i, gD a.ds i <= b + 1) : ∀ i, gD (Gr.one n dd a j).ds i <= b + 1 := by
 intro i
 unfold Gr.one
 split
 · exact h i
 · split
   · by_cases hij : j.toNat = i
     · subst hij
       by_cases hl : j.toNat < a.ds.length
       · simp only; rw [gD_set_eq hl]; omega
       · simp only
         rw [List.set_eq_of_length_le (by omega)]; exact h _
     · simp only; rw [gD_set_ne hij]; exact h i
   · split <;> exact h i
theorem fold_bnd {n : Nat} {dd b : Int} (hd : dd <= b) (hb : 0 <= b) : ∀ (l : List Int) (a : An), (∀ i, gD a.ds i <= b + 1) -> ∀ i, gD (l.foldl (Gr.one n dd) a).ds i <= b + 1
 | [], a, h => h
 | j :: l, a, h => fold_bnd hd hb l _ (one_bnd hd hb h)
theorem stp_bnd {c : Cd} {a : An} {i : Nat} {r : List Nat} {b : Int} (hb : 0 <= b) (h : ∀ i, gD a.ds i <= b) : ∀ k, gD (stp c a i r).ds k <= b + 1 := by
 have hp := popI_rng (opA c i)
 have hq := pushI_rng (opA c i)
 unfold stp
 refine fold_bnd (b := b) ?_ hb _ _ (fun k => ?_)
 · have := h i
   unfold aft
   omega
 · have := h k
   simp only
   omega
section
variable {d : D} {c : Cd} {e0 e1 e2 : Int}
theorem aend15 (hd : IsCode d c) {a : An} (ho : a.op = []) : Z base15 (.loop 0 F139l0 (aFr c.length a.op.length) (aS d e0 e1 e2 a)) = some (.out (.exit 0) (aFr c.length 0 ++ [(24, .bool false)]) (aS d e0 e1 e2 a)) := by
 obtain ⟨fl, br, depth, ds, op⟩ := a
 simp only at ho
 subst ho
 have e : F139l0 = .seq F139a F139b := rfl
 rw [Z_loop_eq, e]
 simp [loopStep, F139a_eq, aFr, aS, List.range_succ, len_own, hd.one, hd.cells]
theorem aloop15 (hd : IsCode d c) (hf : Fits c) (hops : ∀ i, i < c.length -> 1 <= opA c i /\ opA c i <= 21) (hcl : c.length < 2^27) {e : Nat} (he : e < c.length) (m : Nat) : ∀ (a : An) (b : Int), mu a <= m -> Inv c e none [] a -> 0 <= b -> b + m < 2^38 -> m < 2^29 -> (∀ i, gD a.ds i <= b) ->
   ∃ a', Inv c e none [] a' /\ a'.op = [] /\ Z base15 (.loop 0 F139l0 (aFr c.length a.op.length) (aS d e0 e1 e2 a)) = some (.out (.exit 0) (aFr c.length 0 ++ [(24, .bool false)]) (aS d e0 e1 e2 a')) := by
 induction m with
 | zero =>
   intro a b hm hi hb hbm hm2 hall
   have ho : a.op = [] := List.length_eq_zero_iff.1 (by unfold mu at hm; omega)
   exact ⟨a, hi, ho, aend15 hd ho⟩
 | succ m ih =>
   intro a b hm hi hb hbm hm2 hall
   by_cases ho : a.op = []
   · exact ⟨a, hi, ho, aend15 hd ho⟩
   · obtain ⟨r, i, hr⟩ : ∃ r i, a.op = r ++ [i] := ⟨a.op.dropLast, a.op.getLast ho, (List.dropLast_concat_getLast ho).symm⟩
     have hio := hi.opn i (by rw [hr]; simp)
     have hpos := hi.pos i hio.1 hio.2
     have hmu := stp_mu hf hi.len hio.1 hr
     obtain ⟨a', q1, q2, q3⟩ := ih (stp c a i r) (b + 1) (by omega) (stp_inv hf hi hr) (by omega) (by omega) (by omega) (stp_bnd hb hall)
     refine ⟨a', q1, q2, ?_⟩
     rw [astep15 hd hf hops (by omega) hr hio.1 hi.len (by unfold mu at hm; omega) ⟨hpos.1, by have := hall i; omega⟩]
     exact q3
theorem ana_Z (hd : IsCode d c) (hf : Fits c) (hops : ∀ i, i < c.length -> 1 <= opA c i /\ opA c i <= 21) (hcl : c.length < 2^27) {e : Nat} (he : e < c.length) :
   ∃ fl br dp, AnaRes c e fl br dp /\ Z base15 (.call 139 [pgD d e0 e1 e2, .int e] []) = some (.ret (.dat (.agg [.lit (.bool fl), .lit (.bool br), .lit (.int .i64 dp)])) []) := by
 have hmu : mu (an0 c e) <= 2 * c.length + 1 := by
   have : ((List.replicate c.length (0 : Int)).set e 1).count 0 <= ((List.replicate c.length (0 : Int)).set e 1).length := List.count_le_length
   simp only [mu, an0, List.length_singleton]
   simp only [List.length_set, List.length_replicate] at this
   omega
 have hall : ∀ i, gD (an0 c e).ds i <= 1 := fun i => by
   unfold an0
   simp only
   by_cases h : e = i
   · subst h; rw [gD_set_eq (by simpa using he)]; exact Int.le_refl _
   · rw [gD_set_ne h, gD_zero]; omega
 obtain ⟨a, h1, h2, h3⟩ := aloop15 (e0 := e0) (e1 := e1) (e2 := e2) hd hf hops hcl he (2 * c.length + 1) (an0 c e) 1 hmu (an0_inv he) (by omega) (by omega) (by omega) hall
 obtain ⟨f1, f2, f3⟩ := fin_inv he h1 h2
 refine ⟨a.falls, a.breaks, a.depth, ⟨f1, f2, f3⟩, ?_⟩
 have hlen := hd.len
 have ho := hd.one
 have hc := hd.cells
 have k1 : (c.length : Int) <= 1099511627776 /\ 8 * (c.length : Int) <= 281474976710656 := by omega
 have k2 : 8 * c.length <= 281474976710656 := by omega
 have hm : sliceAddr 1 (.msl 3 0 c.length c.length 1) e = some (.ptr 3 e) := by
   have a2 : (e : Int) < c.length := by omega
   simp [sliceAddr, a2]
 have hse : (ints (List.replicate c.length 0)).take e ++ (V.int 1 :: (ints (List.replicate c.length 0)).drop (e + 1)) = ints ((List.replicate c.length 0).set e 1) := set_ints _ e 1 (by simpa using he)
 have hel : e + 1 <= c.length := he
 have hone : ints (([e] : List Nat).map fun (i : Nat) => (i : Int)) = [V.int e] := rfl
 refine Z_call (pf := F139) rfl rfl ?_
 simp only [aFr, aS, an0, List.length_singleton, hone] at h3
 simp [F139, pgD, repl_ints, k1, k2, hlen, ho, hc, hm, hse, hel, h3, List.range_succ]
end
theorem safe_Z (fl br : Bool) (dp : Int) : Z base15 (.call 140 [.dat (.agg [.lit (.bool fl), .lit (.bool br), .lit (.int .i64 dp)])] []) = some (.ret (.bool (!br && decide (dp <= 16))) []) := by
 refine Z_call (pf := F140) rfl rfl ?_
 cases br
 · simp [F140, List.range_succ]
 · simp [F140, List.range_succ]
end Go.Pm
end SN3
