/- Chapter 15: the program's translator: binary expressions, all expressions. Chapter 15: the program's translator: every expression. -/
import Derived.Test.YtdnnjabacgpfdaaGreatDoorPmDa
set_option linter.unusedSimpArgs false
set_option linter.unusedVariables false
section SDf
namespace Go.Pm
open F Gr
set_option maxHeartbeats 2000000
attribute [local simp] locs_mapM ren_mapM dkey rkey
theorem sq_eq (A B : Int -> Cd) (c : Cd) : (c ++ A c.length) ++ B (c ++ A c.length).length = c ++ sq A B c.length := by
 simp only [sq, List.append_assoc, List.length_append]
 rw [show ((c.length + (A c.length).length : Nat) : Int) = c.length + (A c.length).length by omega]
section
variable {vs : List ByteArray} {a b : E} {A B : Int -> Cd} {La Lb : Nat} {e0 e1 e2 : Int}
theorem tb_and1 (ha : TrOK vs a.node A La) (hb : TrOK vs b.node B Lb) (f : Bool) (c : Cd) (hc : c ≠ []) (hl : c.length + 4 * (La + Lb + 3) < 2^30) : Z base15 (.call 168 [.ptr 0 0, (E.bin f .and a b).node] (tst1 vs e0 e1 e2 c)) = some (.ret (.tup []) (tst1 vs e0 e1 e2 (c ++ (brC A B (fun _ => [(1, 0)])) c.length))) := by
 have s1 := os_and .and
 have s2 := os_or .and
 have hpa := ha.pos
 have z := choice21_1 (vs := vs) (e0 := e0) (e1 := e1) (e2 := e2) (clo181 (k := 14) (n := 0) (s := (Bop.and).str) (f := f) (N := 2) (cs := [.lit (.int .i64 a.kind), .lit (.int .i64 a.num), .lit (.string a.str), a.kids, .lit (.int .i64 b.kind), .lit (.int .i64 b.num), .lit (.string b.str), b.kids]) ha.toTrB rfl (by omega)) (clo182 (k := 14) (n := 0) (s := (Bop.and).str) (f := f) (N := 2) (cs := [.lit (.int .i64 a.kind), .lit (.int .i64 a.num), .lit (.string a.str), a.kids, .lit (.int .i64 b.kind), .lit (.int .i64 b.num), .lit (.string b.str), b.kids]) hb.toTrB rfl (by omega)) (clo183) c hc (by omega) ha.pos
 simp only [nbo, kd_s] at z
 generalize c ++ (brC A B (fun _ => [(1, 0)])) c.length = c2 at *
 refine Z_call (pf := F168) rfl rfl ?_
 simp [F168, s1, s2, isAnd, isOr, z, List.range_succ]
theorem tb_and0 (ha : TrOK vs a.node A La) (hb : TrOK vs b.node B Lb) (f : Bool) (hl : 4 * (La + Lb + 3) < 2^30) : Z base15 (.call 168 [.ptr 0 0, (E.bin f .and a b).node] (tst0 vs e0 e1 e2)) = some (.ret (.tup []) (tst2 vs e0 e1 e2 ((brC A B (fun _ => [(1, 0)])) 0))) := by
 have s1 := os_and .and
 have s2 := os_or .and
 have hpa := ha.pos
 have z := choice21_0 (vs := vs) (e0 := e0) (e1 := e1) (e2 := e2) (clo181 (k := 14) (n := 0) (s := (Bop.and).str) (f := f) (N := 2) (cs := [.lit (.int .i64 a.kind), .lit (.int .i64 a.num), .lit (.string a.str), a.kids, .lit (.int .i64 b.kind), .lit (.int .i64 b.num), .lit (.string b.str), b.kids]) ha.toTrB rfl (by omega)) (cloz181 (k := 14) (n := 0) (s := (Bop.and).str) (f := f) (N := 2) (cs := [.lit (.int .i64 a.kind), .lit (.int .i64 a.num), .lit (.string a.str), a.kids, .lit (.int .i64 b.kind), .lit (.int .i64 b.num), .lit (.string b.str), b.kids]) ha rfl (by omega) (by omega)) (clo182 (k := 14) (n := 0) (s := (Bop.and).str) (f := f) (N := 2) (cs := [.lit (.int .i64 a.kind), .lit (.int .i64 a.num), .lit (.string a.str), a.kids, .lit (.int .i64 b.kind), .lit (.int .i64 b.num), .lit (.string b.str), b.kids]) hb.toTrB rfl (by omega)) (clo183) (by omega) ha.pos
 simp only [nbo, kd_s] at z
 generalize (brC A B (fun _ => [(1, 0)])) 0 = c2 at *
 refine Z_call (pf := F168) rfl rfl ?_
 simp [F168, s1, s2, isAnd, isOr, z, List.range_succ]
theorem tb_or1 (ha : TrOK vs a.node A La) (hb : TrOK vs b.node B Lb) (f : Bool) (c : Cd) (hc : c ≠ []) (hl : c.length + 4 * (La + Lb + 3) < 2^30) : Z base15 (.call 168 [.ptr 0 0, (E.bin f .or a b).node] (tst1 vs e0 e1 e2 c)) = some (.ret (.tup []) (tst1 vs e0 e1 e2 (c ++ (brC A (fun _ => [(1, 1)]) B) c.length))) := by
 have s1 := os_and .or
 have s2 := os_or .or
 have hpa := ha.pos
 have z := choice12_1 (vs := vs) (e0 := e0) (e1 := e1) (e2 := e2) (clo184 (k := 14) (n := 0) (s := (Bop.or).str) (f := f) (N := 2) (cs := [.lit (.int .i64 a.kind), .lit (.int .i64 a.num), .lit (.string a.str), a.kids, .lit (.int .i64 b.kind), .lit (.int .i64 b.num), .lit (.string b.str), b.kids]) ha.toTrB rfl (by omega)) (clo185) (clo186 (k := 14) (n := 0) (s := (Bop.or).str) (f := f) (N := 2) (cs := [.lit (.int .i64 a.kind), .lit (.int .i64 a.num), .lit (.string a.str), a.kids, .lit (.int .i64 b.kind), .lit (.int .i64 b.num), .lit (.string b.str), b.kids]) hb.toTrB rfl (by omega)) c hc (by omega) ha.pos
 simp only [nbo, kd_s] at z
 generalize c ++ (brC A (fun _ => [(1, 1)]) B) c.length = c2 at *
 refine Z_call (pf := F168) rfl rfl ?_
 simp [F168, s1, s2, isAnd, isOr, z, List.range_succ]
theorem tb_or0 (ha : TrOK vs a.node A La) (hb : TrOK vs b.node B Lb) (f : Bool) (hl : 4 * (La + Lb + 3) < 2^30) : Z base15 (.call 168 [.ptr 0 0, (E.bin f .or a b).node] (tst0 vs e0 e1 e2)) = some (.ret (.tup []) (tst2 vs e0 e1 e2 ((brC A (fun _ => [(1, 1)]) B) 0))) := by
 have s1 := os_and .or
 have s2 := os_or .or
 have hpa := ha.pos
 have z := choice12_0 (vs := vs) (e0 := e0) (e1 := e1) (e2 := e2) (clo184 (k := 14) (n := 0) (s := (Bop.or).str) (f := f) (N := 2) (cs := [.lit (.int .i64 a.kind), .lit (.int .i64 a.num), .lit (.string a.str), a.kids, .lit (.int .i64 b.kind), .lit (.int .i64 b.num), .lit (.string b.str), b.kids]) ha.toTrB rfl (by omega)) (cloz184 (k := 14) (n := 0) (s := (Bop.or).str) (f := f) (N := 2) (cs := [.lit (.int .i64 a.kind), .lit (.int .i64 a.num), .lit (.string a.str), a.kids, .lit (.int .i64 b.kind), .lit (.int .i64 b.num), .lit (.string b.str), b.kids]) ha rfl (by omega) (by omega)) (clo185) (clo186 (k := 14) (n := 0) (s := (Bop.or).str) (f := f) (N := 2) (cs := [.lit (.int .i64 a.kind), .lit (.int .i64 a.num), .lit (.string a.str), a.kids, .lit (.int .i64 b.kind), .lit (.int .i64 b.num), .lit (.string b.str), b.kids]) hb.toTrB rfl (by omega)) (by omega) ha.pos
 simp only [nbo, kd_s] at z
 generalize (brC A (fun _ => [(1, 1)]) B) 0 = c2 at *
 refine Z_call (pf := F168) rfl rfl ?_
 simp [F168, s1, s2, isAnd, isOr, z, List.range_succ]
theorem tb_rev1 (ha : TrOK vs a.node A La) (hb : TrOK vs b.node B Lb) (f : Bool) {o : Bop} (h1 : isAnd o = false) (h2 : isOr o = false) (h3 : isGt o = true \/ isGe o = true) (c : Cd) (hc : c ≠ []) (hl : c.length + 4 * (La + Lb + 1) < 2^30) : Z base15 (.call 168 [.ptr 0 0, (E.bin f o a b).node] (tst1 vs e0 e1 e2 c)) = some (.ret (.tup []) (tst1 vs e0 e1 e2 (c ++ (snC (sq B A) (opI o, 0)) c.length))) := by
 have s1 := os_and o
 have s2 := os_or o
 have s3 := os_gt o
 have s4 := os_ge o
 have s5 := os_ne o
 have hpa := ha.pos
 have hpb := hb.pos
 have z1 : Z base15 (.call 165 [.ptr 0 0, (E.bin f o a b).node, .int 1] (tst1 vs e0 e1 e2 c)) = _ := kid1 (f := f) (N := 2) (i := 1) (e0 := e0) (e1 := e1) (e2 := e2) hb.toTrB rfl (by omega) c hc (by omega)
 have l1 : (c ++ B c.length).length = c.length + Lb := by rw [List.length_append, hb.ln]
 have z2 : Z base15 (.call 165 [.ptr 0 0, (E.bin f o a b).node, .int 0] (tst1 vs e0 e1 e2 (c ++ B c.length))) = _ := kid1 (f := f) (N := 2) (i := 0) (e0 := e0) (e1 := e1) (e2 := e2) ha.toTrB rfl (by omega) (c ++ B c.length) (app_ne hc) (by omega)
 rw [sq_eq] at z2
 have l2 : (c ++ sq B A c.length).length < 2^30 := by rw [List.length_append, ln_sq hb.ln ha.ln]; omega
 have zo := opcode_Z o (fun e => by rw [e] at h1; exact absurd h1 (by decide)) (fun e => by rw [e] at h2; exact absurd h2 (by decide))
 have z3 := emit1 (vs := vs) (e0 := e0) (e1 := e1) (e2 := e2) (c ++ sq B A c.length) l2 (opI o) 0
 rw [show (c ++ sq B A c.length) ++ [(opI o, (0 : Int))] = c ++ (snC (sq B A) (opI o, 0)) c.length by simp [snC]] at z3
 simp only [E.node, kind_bin, num_bin, str_bin, kids_bin] at z1 z2
 generalize c ++ (snC (sq B A) (opI o, 0)) c.length = c5 at *
 generalize c ++ sq B A c.length = c3 at *
 generalize c ++ B c.length = c1 at *
 refine Z_call (pf := F168) rfl rfl ?_
 rcases h3 with h3 | h3
 · simp [F168, s1, s2, s3, h1, h2, h3, z1, z2, z3, zo, calm, alone, List.range_succ]
 · cases hg : isGt o with
   | true => simp [F168, s1, s2, s3, h1, h2, hg, z1, z2, z3, zo, calm, alone, List.range_succ]
   | false => simp [F168, s1, s2, s3, s4, h1, h2, h3, hg, z1, z2, z3, zo, calm, alone, List.range_succ]
theorem tb_ne1 (ha : TrOK vs a.node A La) (hb : TrOK vs b.node B Lb) (f : Bool) {o : Bop} (ho : o = .ne) (c : Cd) (hc : c ≠ []) (hl : c.length + 4 * (La + Lb + 1) < 2^30) : Z base15 (.call 168 [.ptr 0 0, (E.bin f o a b).node] (tst1 vs e0 e1 e2 c)) = some (.ret (.tup []) (tst1 vs e0 e1 e2 (c ++ (snC (snC (sq A B) (16, 0)) (17, 0)) c.length))) := by
 subst ho
 have s1 := os_and .ne
 have s2 := os_or .ne
 have s3 := os_gt .ne
 have s4 := os_ge .ne
 have s5 := os_ne .ne
 have hpa := ha.pos
 have hpb := hb.pos
 have z1 : Z base15 (.call 165 [.ptr 0 0, (E.bin f .ne a b).node, .int 0] (tst1 vs e0 e1 e2 c)) = _ := kid1 (f := f) (N := 2) (i := 0) (e0 := e0) (e1 := e1) (e2 := e2) ha.toTrB rfl (by omega) c hc (by omega)
 have l1 : (c ++ A c.length).length = c.length + La := by rw [List.length_append, ha.ln]
 have z2 : Z base15 (.call 165 [.ptr 0 0, (E.bin f .ne a b).node, .int 1] (tst1 vs e0 e1 e2 (c ++ A c.length))) = _ := kid1 (f := f) (N := 2) (i := 1) (e0 := e0) (e1 := e1) (e2 := e2) hb.toTrB rfl (by omega) (c ++ A c.length) (app_ne hc) (by omega)
 rw [sq_eq] at z2
 have l2 : (c ++ sq A B c.length).length < 2^30 := by rw [List.length_append, ln_sq ha.ln hb.ln]; omega
 have z3 := emit1 (vs := vs) (e0 := e0) (e1 := e1) (e2 := e2) (c ++ sq A B c.length) l2 16 0
 rw [show (c ++ sq A B c.length) ++ [((16 : Int), (0 : Int))] = c ++ snC (sq A B) (16, 0) c.length by simp [snC]] at z3
 have l3 : (c ++ snC (sq A B) (16, 0) c.length).length < 2^30 := by rw [List.length_append, ln_sn (ln_sq ha.ln hb.ln)]; omega
 have z4 := emit1 (vs := vs) (e0 := e0) (e1 := e1) (e2 := e2) (c ++ snC (sq A B) (16, 0) c.length) l3 17 0
 rw [show (c ++ snC (sq A B) (16, 0) c.length) ++ [((17 : Int), (0 : Int))] = c ++ (snC (snC (sq A B) (16, 0)) (17, 0)) c.length by simp [snC]] at z4
 simp only [E.node, kind_bin, num_bin, str_bin, kids_bin] at z1 z2
 generalize c ++ (snC (snC (sq A B) (16, 0)) (17, 0)) c.length = c5 at *
 generalize c ++ snC (sq A B) (16, 0) c.length = c4 at *
 generalize c ++ sq A B c.length = c3 at *
 generalize c ++ A c.length = c1 at *
 refine Z_call (pf := F168) rfl rfl ?_
 simp [F168, s1, s2, s3, s4, s5, isAnd, isOr, isGt, isGe, isNe, z1, z2, z3, z4, calm, alone, List.range_succ]
theorem tb_std1 (ha : TrOK vs a.node A La) (hb : TrOK vs b.node B Lb) (f : Bool) {o : Bop} (h1 : isAnd o = false) (h2 : isOr o = false) (h3 : isGt o = false) (h4 : isGe o = false) (h5 : isNe o = false) (c : Cd) (hc : c ≠ []) (hl : c.length + 4 * (La + Lb + 1) < 2^30) : Z base15 (.call 168 [.ptr 0 0, (E.bin f o a b).node] (tst1 vs e0 e1 e2 c)) = some (.ret (.tup []) (tst1 vs e0 e1 e2 (c ++ (snC (sq A B) (opI o, 0)) c.length))) := by
 have s1 := os_and o
 have s2 := os_or o
 have s3 := os_gt o
 have s4 := os_ge o
 have s5 := os_ne o
 have hpa := ha.pos
 have hpb := hb.pos
 have z1 : Z base15 (.call 165 [.ptr 0 0, (E.bin f o a b).node, .int 0] (tst1 vs e0 e1 e2 c)) = _ := kid1 (f := f) (N := 2) (i := 0) (e0 := e0) (e1 := e1) (e2 := e2) ha.toTrB rfl (by omega) c hc (by omega)
 have l1 : (c ++ A c.length).length = c.length + La := by rw [List.length_append, ha.ln]
 have z2 : Z base15 (.call 165 [.ptr 0 0, (E.bin f o a b).node, .int 1] (tst1 vs e0 e1 e2 (c ++ A c.length))) = _ := kid1 (f := f) (N := 2) (i := 1) (e0 := e0) (e1 := e1) (e2 := e2) hb.toTrB rfl (by omega) (c ++ A c.length) (app_ne hc) (by omega)
 rw [sq_eq] at z2
 have l2 : (c ++ sq A B c.length).length < 2^30 := by rw [List.length_append, ln_sq ha.ln hb.ln]; omega
 have zo := opcode_Z o (fun e => by rw [e] at h1; exact absurd h1 (by decide)) (fun e => by rw [e] at h2; exact absurd h2 (by decide))
 have z3 := emit1 (vs := vs) (e0 := e0) (e1 := e1) (e2 := e2) (c ++ sq A B c.length) l2 (opI o) 0
 rw [show (c ++ sq A B c.length) ++ [(opI o, (0 : Int))] = c ++ (snC (sq A B) (opI o, 0)) c.length by simp [snC]] at z3
 simp only [E.node, kind_bin, num_bin, str_bin, kids_bin] at z1 z2
 generalize c ++ (snC (sq A B) (opI o, 0)) c.length = c5 at *
 generalize c ++ sq A B c.length = c3 at *
 generalize c ++ A c.length = c1 at *
 refine Z_call (pf := F168) rfl rfl ?_
 simp [F168, s1, s2, s3, s4, s5, h1, h2, h3, h4, h5, z1, z2, z3, zo, calm, alone, List.range_succ]
theorem tb_rev0 (ha : TrOK vs a.node A La) (hb : TrOK vs b.node B Lb) (f : Bool) {o : Bop} (h1 : isAnd o = false) (h2 : isOr o = false) (h3 : isGt o = true \/ isGe o = true) (hl : 4 * (La + Lb + 1) < 2^30) : Z base15 (.call 168 [.ptr 0 0, (E.bin f o a b).node] (tst0 vs e0 e1 e2)) = some (.ret (.tup []) (tst2 vs e0 e1 e2 ((snC (sq B A) (opI o, 0)) 0))) := by
 have s1 := os_and o
 have s2 := os_or o
 have s3 := os_gt o
 have s4 := os_ge o
 have s5 := os_ne o
 have hpa := ha.pos
 have hpb := hb.pos
 have z1 : Z base15 (.call 165 [.ptr 0 0, (E.bin f o a b).node, .int 1] (tst0 vs e0 e1 e2)) = _ := kid0 (f := f) (N := 2) (i := 1) (e0 := e0) (e1 := e1) (e2 := e2) hb rfl (by omega) (by omega)
 have l1 : (B 0).length = Lb := hb.ln 0
 have n1 : B 0 ≠ [] := fun e => by rw [e] at l1; simp only [List.length_nil] at l1; have := hb.pos; omega
 have z2 : Z base15 (.call 165 [.ptr 0 0, (E.bin f o a b).node, .int 0] (tst1 vs e0 e1 e2 (B 0))) = _ := kid1 (f := f) (N := 2) (i := 0) (e0 := e0) (e1 := e1) (e2 := e2) ha.toTrB rfl (by omega) (B 0) n1 (by omega)
 rw [show B 0 ++ A (B 0).length = sq B A 0 by simp [sq]] at z2
 have l2 : (sq B A 0).length < 2^30 := by rw [ln_sq hb.ln ha.ln]; omega
 have zo := opcode_Z o (fun e => by rw [e] at h1; exact absurd h1 (by decide)) (fun e => by rw [e] at h2; exact absurd h2 (by decide))
 have z3 := emit1 (vs := vs) (e0 := e0) (e1 := e1) (e2 := e2) (sq B A 0) l2 (opI o) 0
 rw [show (sq B A 0) ++ [(opI o, (0 : Int))] = (snC (sq B A) (opI o, 0)) 0 by simp [snC]] at z3
 simp only [E.node, kind_bin, num_bin, str_bin, kids_bin] at z1 z2
 generalize (snC (sq B A) (opI o, 0)) 0 = c5 at *
 generalize sq B A 0 = c3 at *
 generalize B 0 = c1 at *
 refine Z_call (pf := F168) rfl rfl ?_
 rcases h3 with h3 | h3
 · simp [F168, s1, s2, s3, h1, h2, h3, z1, z2, z3, zo, calm, alone, List.range_succ]
 · cases hg : isGt o with
   | true => simp [F168, s1, s2, s3, h1, h2, hg, z1, z2, z3, zo, calm, alone, List.range_succ]
   | false => simp [F168, s1, s2, s3, s4, h1, h2, h3, hg, z1, z2, z3, zo, calm, alone, List.range_succ]
theorem tb_ne0 (ha : TrOK vs a.node A La) (hb : TrOK vs b.node B Lb) (f : Bool) {o : Bop} (ho : o = .ne) (hl : 4 * (La + Lb + 1) < 2^30) : Z base15 (.call 168 [.ptr 0 0, (E.bin f o a b).node] (tst0 vs e0 e1 e2)) = some (.ret (.tup []) (tst2 vs e0 e1 e2 ((snC (snC (sq A B) (16, 0)) (17, 0)) 0))) := by
 subst ho
 have s1 := os_and .ne
 have s2 := os_or .ne
 have s3 := os_gt .ne
 have s4 := os_ge .ne
 have s5 := os_ne .ne
 have hpa := ha.pos
 have hpb := hb.pos
 have z1 : Z base15 (.call 165 [.ptr 0 0, (E.bin f .ne a b).node, .int 0] (tst0 vs e0 e1 e2)) = _ := kid0 (f := f) (N := 2) (i := 0) (e0 := e0) (e1 := e1) (e2 := e2) ha rfl (by omega) (by omega)
 have l1 : (A 0).length = La := ha.ln 0
 have n1 : A 0 ≠ [] := fun e => by rw [e] at l1; simp only [List.length_nil] at l1; have := ha.pos; omega
 have z2 : Z base15 (.call 165 [.ptr 0 0, (E.bin f .ne a b).node, .int 1] (tst1 vs e0 e1 e2 (A 0))) = _ := kid1 (f := f) (N := 2) (i := 1) (e0 := e0) (e1 := e1) (e2 := e2) hb.toTrB rfl (by omega) (A 0) n1 (by omega)
 rw [show A 0 ++ B (A 0).length = sq A B 0 by simp [sq]] at z2
 have l2 : (sq A B 0).length < 2^30 := by rw [ln_sq ha.ln hb.ln]; omega
 have z3 := emit1 (vs := vs) (e0 := e0) (e1 := e1) (e2 := e2) (sq A B 0) l2 16 0
 rw [show (sq A B 0) ++ [((16 : Int), (0 : Int))] = snC (sq A B) (16, 0) 0 by simp [snC]] at z3
 have l3 : (snC (sq A B) (16, 0) 0).length < 2^30 := by rw [ln_sn (ln_sq ha.ln hb.ln)]; omega
 have z4 := emit1 (vs := vs) (e0 := e0) (e1 := e1) (e2 := e2) (snC (sq A B) (16, 0) 0) l3 17 0
 rw [show (snC (sq A B) (16, 0) 0) ++ [((17 : Int), (0 : Int))] = (snC (snC (sq A B) (16, 0)) (17, 0)) 0 by simp [snC]] at z4
 simp only [E.node, kind_bin, num_bin, str_bin, kids_bin] at z1 z2
 generalize (snC (snC (sq A B) (16, 0)) (17, 0)) 0 = c5 at *
 generalize snC (sq A B) (16, 0) 0 = c4 at *
 generalize sq A B 0 = c3 at *
 generalize A 0 = c1 at *
 refine Z_call (pf := F168) rfl rfl ?_
 simp [F168, s1, s2, s3, s4, s5, isAnd, isOr, isGt, isGe, isNe, z1, z2, z3, z4, calm, alone, List.range_succ]
theorem tb_std0 (ha : TrOK vs a.node A La) (hb : TrOK vs b.node B Lb) (f : Bool) {o : Bop} (h1 : isAnd o = false) (h2 : isOr o = false) (h3 : isGt o = false) (h4 : isGe o = false) (h5 : isNe o = false) (hl : 4 * (La + Lb + 1) < 2^30) : Z base15 (.call 168 [.ptr 0 0, (E.bin f o a b).node] (tst0 vs e0 e1 e2)) = some (.ret (.tup []) (tst2 vs e0 e1 e2 ((snC (sq A B) (opI o, 0)) 0))) := by
 have s1 := os_and o
 have s2 := os_or o
 have s3 := os_gt o
 have s4 := os_ge o
 have s5 := os_ne o
 have hpa := ha.pos
 have hpb := hb.pos
 have z1 : Z base15 (.call 165 [.ptr 0 0, (E.bin f o a b).node, .int 0] (tst0 vs e0 e1 e2)) = _ := kid0 (f := f) (N := 2) (i := 0) (e0 := e0) (e1 := e1) (e2 := e2) ha rfl (by omega) (by omega)
 have l1 : (A 0).length = La := ha.ln 0
 have n1 : A 0 ≠ [] := fun e => by rw [e] at l1; simp only [List.length_nil] at l1; have := ha.pos; omega
 have z2 : Z base15 (.call 165 [.ptr 0 0, (E.bin f o a b).node, .int 1] (tst1 vs e0 e1 e2 (A 0))) = _ := kid1 (f := f) (N := 2) (i := 1) (e0 := e0) (e1 := e1) (e2 := e2) hb.toTrB rfl (by omega) (A 0) n1 (by omega)
 rw [show A 0 ++ B (A 0).length = sq A B 0 by simp [sq]] at z2
 have l2 : (sq A B 0).length < 2^30 := by rw [ln_sq ha.ln hb.ln]; omega
 have zo := opcode_Z o (fun e => by rw [e] at h1; exact absurd h1 (by decide)) (fun e => by rw [e] at h2; exact absurd h2 (by decide))
 have z3 := emit1 (vs := vs) (e0 := e0) (e1 := e1) (e2 := e2) (sq A B 0) l2 (opI o) 0
 rw [show (sq A B 0) ++ [(opI o, (0 : Int))] = (snC (sq A B) (opI o, 0)) 0 by simp [snC]] at z3
 simp only [E.node, kind_bin, num_bin, str_bin, kids_bin] at z1 z2
 generalize (snC (sq A B) (opI o, 0)) 0 = c5 at *
 generalize sq A B 0 = c3 at *
 generalize A 0 = c1 at *
 refine Z_call (pf := F168) rfl rfl ?_
 simp [F168, s1, s2, s3, s4, s5, h1, h2, h3, h4, h5, z1, z2, z3, zo, calm, alone, List.range_succ]
end
end Go.Pm
end SDf
section SDg
namespace Go.Pm
open F Gr
set_option maxHeartbeats 2000000
attribute [local simp] locs_mapM ren_mapM dkey rkey
section
variable {vs : List ByteArray} {a b : E} {A B : Int -> Cd} {La Lb : Nat}
theorem tr_bin_of (f : Bool) (o : Bop) {K : Nat} (hk : Ln (binC o A B) K) (h0 : 0 < K) (h1 : ∀ (e0 e1 e2 : Int) (c : Cd), c ≠ [] -> c.length + 4 * K < 2^30 -> Z base15 (.call 168 [.ptr 0 0, (E.bin f o a b).node] (tst1 vs e0 e1 e2 c)) = some (.ret (.tup []) (tst1 vs e0 e1 e2 (c ++ (binC o A B) c.length))))
   (h2 : ∀ (e0 e1 e2 : Int), 4 * K < 2^30 -> Z base15 (.call 168 [.ptr 0 0, (E.bin f o a b).node] (tst0 vs e0 e1 e2)) = some (.ret (.tup []) (tst2 vs e0 e1 e2 ((binC o A B) 0)))) : TrOK vs (E.bin f o a b).node (binC o A B) K where
 ln := hk
 pos := h0
 one := fun e0 e1 e2 c hc hl => by
   have z := h1 e0 e1 e2 c hc hl
   simp only [E.node, kind_bin, num_bin, str_bin, kids_bin] at z
   generalize c ++ binC o A B c.length = c2 at *
   refine Z_call (pf := F147) rfl rfl ?_
   simp [F147, z, List.range_succ]
 zero := fun e0 e1 e2 hl => by
   have z := h2 e0 e1 e2 hl
   simp only [E.node, kind_bin, num_bin, str_bin, kids_bin] at z
   generalize binC o A B 0 = c2 at *
   refine Z_call (pf := F147) rfl rfl ?_
   simp [F147, z, List.range_succ]
theorem tr_bin (ha : TrOK vs a.node A La) (hb : TrOK vs b.node B Lb) (f : Bool) (o : Bop) : ∃ K, TrOK vs (E.bin f o a b).node (binC o A B) K := by
 have h1 : Ln (fun _ => [((1 : Int), (0 : Int))]) 1 := fun _ => rfl
 have h1' : Ln (fun _ => [((1 : Int), (1 : Int))]) 1 := fun _ => rfl
 have pa := ha.pos
 have pb := hb.pos
 cases o
 case and => exact ⟨_, tr_bin_of f .and (ln_br ha.ln hb.ln h1) (by omega) (fun e0 e1 e2 c hc hl => tb_and1 ha hb f c hc (by omega)) (fun e0 e1 e2 hl => tb_and0 ha hb f (by omega))⟩
 case or => exact ⟨_, tr_bin_of f .or (ln_br ha.ln h1' hb.ln) (by omega) (fun e0 e1 e2 c hc hl => tb_or1 ha hb f c hc (by omega)) (fun e0 e1 e2 hl => tb_or0 ha hb f (by omega))⟩
 case gt => exact ⟨_, tr_bin_of f .gt (ln_sn (ln_sq hb.ln ha.ln)) (by omega) (fun e0 e1 e2 c hc hl => tb_rev1 ha hb f (o := .gt) rfl rfl (.inl rfl) c hc (by omega)) (fun e0 e1 e2 hl => tb_rev0 ha hb f (o := .gt) rfl rfl (.inl rfl) (by omega))⟩
 case ge => exact ⟨_, tr_bin_of f .ge (ln_sn (ln_sq hb.ln ha.ln)) (by omega) (fun e0 e1 e2 c hc hl => tb_rev1 ha hb f (o := .ge) rfl rfl (.inr rfl) c hc (by omega)) (fun e0 e1 e2 hl => tb_rev0 ha hb f (o := .ge) rfl rfl (.inr rfl) (by omega))⟩
 case ne => exact ⟨_, tr_bin_of f .ne (ln_sn (ln_sn (ln_sq ha.ln hb.ln))) (by omega) (fun e0 e1 e2 c hc hl => tb_ne1 ha hb f rfl c hc (by omega)) (fun e0 e1 e2 hl => tb_ne0 ha hb f rfl (by omega))⟩
 case add => exact ⟨_, tr_bin_of f .add (ln_sn (ln_sq ha.ln hb.ln)) (by omega) (fun e0 e1 e2 c hc hl => tb_std1 ha hb f (o := .add) rfl rfl rfl rfl rfl c hc (by omega)) (fun e0 e1 e2 hl => tb_std0 ha hb f (o := .add) rfl rfl rfl rfl rfl (by omega))⟩
 case sub => exact ⟨_, tr_bin_of f .sub (ln_sn (ln_sq ha.ln hb.ln)) (by omega) (fun e0 e1 e2 c hc hl => tb_std1 ha hb f (o := .sub) rfl rfl rfl rfl rfl c hc (by omega)) (fun e0 e1 e2 hl => tb_std0 ha hb f (o := .sub) rfl rfl rfl rfl rfl (by omega))⟩
 case mul => exact ⟨_, tr_bin_of f .mul (ln_sn (ln_sq ha.ln hb.ln)) (by omega) (fun e0 e1 e2 c hc hl => tb_std1 ha hb f (o := .mul) rfl rfl rfl rfl rfl c hc (by omega)) (fun e0 e1 e2 hl => tb_std0 ha hb f (o := .mul) rfl rfl rfl rfl rfl (by omega))⟩
 case div => exact ⟨_, tr_bin_of f .div (ln_sn (ln_sq ha.ln hb.ln)) (by omega) (fun e0 e1 e2 c hc hl => tb_std1 ha hb f (o := .div) rfl rfl rfl rfl rfl c hc (by omega)) (fun e0 e1 e2 hl => tb_std0 ha hb f (o := .div) rfl rfl rfl rfl rfl (by omega))⟩
 case lt => exact ⟨_, tr_bin_of f .lt (ln_sn (ln_sq ha.ln hb.ln)) (by omega) (fun e0 e1 e2 c hc hl => tb_std1 ha hb f (o := .lt) rfl rfl rfl rfl rfl c hc (by omega)) (fun e0 e1 e2 hl => tb_std0 ha hb f (o := .lt) rfl rfl rfl rfl rfl (by omega))⟩
 case le => exact ⟨_, tr_bin_of f .le (ln_sn (ln_sq ha.ln hb.ln)) (by omega) (fun e0 e1 e2 c hc hl => tb_std1 ha hb f (o := .le) rfl rfl rfl rfl rfl c hc (by omega)) (fun e0 e1 e2 hl => tb_std0 ha hb f (o := .le) rfl rfl rfl rfl rfl (by omega))⟩
 case eq => exact ⟨_, tr_bin_of f .eq (ln_sn (ln_sq ha.ln hb.ln)) (by omega) (fun e0 e1 e2 c hc hl => tb_std1 ha hb f (o := .eq) rfl rfl rfl rfl rfl c hc (by omega)) (fun e0 e1 e2 hl => tb_std0 ha hb f (o := .eq) rfl rfl rfl rfl rfl (by omega))⟩
theorem tr_E : ∀ e : E, e.fine -> e.inV vs -> ∃ L, TrOK vs e.node (codeE vs e) L
 | .int n, _, _ => ⟨_, tr_int n⟩
 | .bool n, _, _ => ⟨_, tr_bool n⟩
 | .var s, _, g => ⟨_, tr_var g⟩
 | .name s, _, _ => ⟨_, tr_name s⟩
 | .field f s e, h, g => let ⟨_, k⟩ := tr_E e h.2.1 g; ⟨_, tr_field f h.1 k⟩
 | .un f true e, h, g => let ⟨_, k⟩ := tr_E e h.1 g; ⟨_, tr_un_true f k⟩
 | .un f false e, h, g => let ⟨_, k⟩ := tr_E e h.1 g; ⟨_, tr_un_false f k⟩
 | .bin f o a b, h, g => let ⟨_, k⟩ := tr_E a h.1 g.1; let ⟨_, k'⟩ := tr_E b h.2.1 g.2; tr_bin k k' f o
end
end Go.Pm
end SDg
