/- Chapter 15: the program's translator: binary expressions, all expressions. Chapter 15: the program's translator: every expression. Chapter 15: the program's translator: statements. Chapter 15: the program's translator: blocks. -/
import Derived.Test.YtjdbkncfebebnaaDoorPmDa
set_option linter.unusedSimpArgs false
set_option linter.unusedVariables false
section SDf
namespace Go.Pm
open F Gr
set_option maxHeartbeats 2000000
attribute [local simp] locs_mapM ren_mapM dkey rkey
theorem sq_eq (A B : Int -> Cd) (c : Cd) : (c ++ A c.length) ++ B (c ++ A c.length).length = c ++ sq A B c.length := by
 simp only [sq, List.append_assoc, List.length_append]
 rw [show ((c.length + (A c.length).length : Nat) : Int) = c.length + (A c.length).length by omega]
section
variable {vs : List ByteArray} {a b : E} {A B : Int -> Cd} {La Lb : Nat} {e0 e1 e2 : Int}
theorem tb_and1 (ha : TrOK vs a.node A La) (hb : TrOK vs b.node B Lb) (f : Bool) (c : Cd) (hc : c ≠ []) (hl : c.length + 4 * (La + Lb + 3) < 2^30) : Z base15 (.call 168 [.ptr 0 0, (E.bin f .and a b).node] (tst1 vs e0 e1 e2 c)) = some (.ret (.tup []) (tst1 vs e0 e1 e2 (c ++ (brC A B (fun _ => [(1, 0)])) c.length))) := by
 have s1 := os_and .and
 have s2 := os_or .and
 have hpa := ha.pos
 have z := choice21_1 (vs := vs) (e0 := e0) (e1 := e1) (e2 := e2) (clo181 (k := 14) (n := 0) (s := (Bop.and).str) (f := f) (N := 2) (cs := [.lit (.int .i64 a.kind), .lit (.int .i64 a.num), .lit (.string a.str), a.kids, .lit (.int .i64 b.kind), .lit (.int .i64 b.num), .lit (.string b.str), b.kids]) ha.toTrB rfl (by omega)) (clo182 (k := 14) (n := 0) (s := (Bop.and).str) (f := f) (N := 2) (cs := [.lit (.int .i64 a.kind), .lit (.int .i64 a.num), .lit (.string a.str), a.kids, .lit (.int .i64 b.kind), .lit (.int .i64 b.num), .lit (.string b.str), b.kids]) hb.toTrB rfl (by omega)) (clo183) c hc (by omega) ha.pos
 simp only [nbo, kd_s] at z
 generalize c ++ (brC A B (fun _ => [(1, 0)])) c.length = c2 at *
 refine Z_call (pf := F168) rfl rfl ?_
 simp [F168, s1, s2, isAnd, isOr, z, List.range_succ]
theorem tb_and0 (ha : TrOK vs a.node A La) (hb : TrOK vs b.node B Lb) (f : Bool) (hl : 4 * (La + Lb + 3) < 2^30) : Z base15 (.call 168 [.ptr 0 0, (E.bin f .and a b).node] (tst0 vs e0 e1 e2)) = some (.ret (.tup []) (tst2 vs e0 e1 e2 ((brC A B (fun _ => [(1, 0)])) 0))) := by
 have s1 := os_and .and
 have s2 := os_or .and
 have hpa := ha.pos
 have z := choice21_0 (vs := vs) (e0 := e0) (e1 := e1) (e2 := e2) (clo181 (k := 14) (n := 0) (s := (Bop.and).str) (f := f) (N := 2) (cs := [.lit (.int .i64 a.kind), .lit (.int .i64 a.num), .lit (.string a.str), a.kids, .lit (.int .i64 b.kind), .lit (.int .i64 b.num), .lit (.string b.str), b.kids]) ha.toTrB rfl (by omega)) (cloz181 (k := 14) (n := 0) (s := (Bop.and).str) (f := f) (N := 2) (cs := [.lit (.int .i64 a.kind), .lit (.int .i64 a.num), .lit (.string a.str), a.kids, .lit (.int .i64 b.kind), .lit (.int .i64 b.num), .lit (.string b.str), b.kids]) ha rfl (by omega) (by omega)) (clo182 (k := 14) (n := 0) (s := (Bop.and).str) (f := f) (N := 2) (cs := [.lit (.int .i64 a.kind), .lit (.int .i64 a.num), .lit (.string a.str), a.kids, .lit (.int .i64 b.kind), .lit (.int .i64 b.num), .lit (.string b.str), b.kids]) hb.toTrB rfl (by omega)) (clo183) (by omega) ha.pos
 simp only [nbo, kd_s] at z
 generalize (brC A B (fun _ => [(1, 0)])) 0 = c2 at *
 refine Z_call (pf := F168) rfl rfl ?_
 simp [F168, s1, s2, isAnd, isOr, z, List.range_succ]
theorem tb_or1 (ha : TrOK vs a.node A La) (hb : TrOK vs b.node B Lb) (f : Bool) (c : Cd) (hc : c ≠ []) (hl : c.length + 4 * (La + Lb + 3) < 2^30) : Z base15 (.call 168 [.ptr 0 0, (E.bin f .or a b).node] (tst1 vs e0 e1 e2 c)) = some (.ret (.tup []) (tst1 vs e0 e1 e2 (c ++ (brC A (fun _ => [(1, 1)]) B) c.length))) := by
 have s1 := os_and .or
 have s2 := os_or .or
 have hpa := ha.pos
 have z := choice12_1 (vs := vs) (e0 := e0) (e1 := e1) (e2 := e2) (clo184 (k := 14) (n := 0) (s := (Bop.or).str) (f := f) (N := 2) (cs := [.lit (.int .i64 a.kind), .lit (.int .i64 a.num), .lit (.string a.str), a.kids, .lit (.int .i64 b.kind), .lit (.int .i64 b.num), .lit (.string b.str), b.kids]) ha.toTrB rfl (by omega)) (clo185) (clo186 (k := 14) (n := 0) (s := (Bop.or).str) (f := f) (N := 2) (cs := [.lit (.int .i64 a.kind), .lit (.int .i64 a.num), .lit (.string a.str), a.kids, .lit (.int .i64 b.kind), .lit (.int .i64 b.num), .lit (.string b.str), b.kids]) hb.toTrB rfl (by omega)) c hc (by omega) ha.pos
 simp only [nbo, kd_s] at z
 generalize c ++ (brC A (fun _ => [(1, 1)]) B) c.length = c2 at *
 refine Z_call (pf := F168) rfl rfl ?_
 simp [F168, s1, s2, isAnd, isOr, z, List.range_succ]
theorem tb_or0 (ha : TrOK vs a.node A La) (hb : TrOK vs b.node B Lb) (f : Bool) (hl : 4 * (La + Lb + 3) < 2^30) : Z base15 (.call 168 [.ptr 0 0, (E.bin f .or a b).node] (tst0 vs e0 e1 e2)) = some (.ret (.tup []) (tst2 vs e0 e1 e2 ((brC A (fun _ => [(1, 1)]) B) 0))) := by
 have s1 := os_and .or
 have s2 := os_or .or
 have hpa := ha.pos
 have z := choice12_0 (vs := vs) (e0 := e0) (e1 := e1) (e2 := e2) (clo184 (k := 14) (n := 0) (s := (Bop.or).str) (f := f) (N := 2) (cs := [.lit (.int .i64 a.kind), .lit (.int .i64 a.num), .lit (.string a.str), a.kids, .lit (.int .i64 b.kind), .lit (.int .i64 b.num), .lit (.string b.str), b.kids]) ha.toTrB rfl (by omega)) (cloz184 (k := 14) (n := 0) (s := (Bop.or).str) (f := f) (N := 2) (cs := [.lit (.int .i64 a.kind), .lit (.int .i64 a.num), .lit (.string a.str), a.kids, .lit (.int .i64 b.kind), .lit (.int .i64 b.num), .lit (.string b.str), b.kids]) ha rfl (by omega) (by omega)) (clo185) (clo186 (k := 14) (n := 0) (s := (Bop.or).str) (f := f) (N := 2) (cs := [.lit (.int .i64 a.kind), .lit (.int .i64 a.num), .lit (.string a.str), a.kids, .lit (.int .i64 b.kind), .lit (.int .i64 b.num), .lit (.string b.str), b.kids]) hb.toTrB rfl (by omega)) (by omega) ha.pos
 simp only [nbo, kd_s] at z
 generalize (brC A (fun _ => [(1, 1)]) B) 0 = c2 at *
 refine Z_call (pf := F168) rfl rfl ?_
 simp [F168, s1, s2, isAnd, isOr, z, List.range_succ]
theorem tb_rev1 (ha : TrOK vs a.node A La) (hb : TrOK vs b.node B Lb) (f : Bool) {o : Bop} (h1 : isAnd o = false) (h2 : isOr o = false) (h3 : isGt o = true \/ isGe o = true) (c : Cd) (hc : c ≠ []) (hl : c.length + 4 * (La + Lb + 1) < 2^30) : Z base15 (.call 168 [.ptr 0 0, (E.bin f o a b).node] (tst1 vs e0 e1 e2 c)) = some (.ret (.tup []) (tst1 vs e0 e1 e2 (c ++ (snC (sq B A) (opI o, 0)) c.length))) := by
 have s1 := os_and o
 have s2 := os_or o
 have s3 := os_gt o
 have s4 := os_ge o
 have s5 := os_ne o
 have hpa := ha.pos
 have hpb := hb.pos
 have z1 : Z base15 (.call 165 [.ptr 0 0, (E.bin f o a b).node, .int 1] (tst1 vs e0 e1 e2 c)) = _ := kid1 (f := f) (N := 2) (i := 1) (e0 := e0) (e1 := e1) (e2 := e2) hb.toTrB rfl (by omega) c hc (by omega)
 have l1 : (c ++ B c.length).length = c.length + Lb := by rw [List.length_append, hb.ln]
 have z2 : Z base15 (.call 165 [.ptr 0 0, (E.bin f o a b).node, .int 0] (tst1 vs e0 e1 e2 (c ++ B c.length))) = _ := kid1 (f := f) (N := 2) (i := 0) (e0 := e0) (e1 := e1) (e2 := e2) ha.toTrB rfl (by omega) (c ++ B c.length) (app_ne hc) (by omega)
 rw [sq_eq] at z2
 have l2 : (c ++ sq B A c.length).length < 2^30 := by rw [List.length_append, ln_sq hb.ln ha.ln]; omega
 have zo := opcode_Z o (fun e => by rw [e] at h1; exact absurd h1 (by decide)) (fun e => by rw [e] at h2; exact absurd h2 (by decide))
 have z3 := emit1 (vs := vs) (e0 := e0) (e1 := e1) (e2 := e2) (c ++ sq B A c.length) l2 (opI o) 0
 rw [show (c ++ sq B A c.length) ++ [(opI o, (0 : Int))] = c ++ (snC (sq B A) (opI o, 0)) c.length by simp [snC]] at z3
 simp only [E.node, kind_bin, num_bin, str_bin, kids_bin] at z1 z2
 generalize c ++ (snC (sq B A) (opI o, 0)) c.length = c5 at *
 generalize c ++ sq B A c.length = c3 at *
 generalize c ++ B c.length = c1 at *
 refine Z_call (pf := F168) rfl rfl ?_
 rcases h3 with h3 | h3
 · simp [F168, s1, s2, s3, h1, h2, h3, z1, z2, z3, zo, calm, alone, List.range_succ]
 · cases hg : isGt o with
   | true => simp [F168, s1, s2, s3, h1, h2, hg, z1, z2, z3, zo, calm, alone, List.range_succ]
   | false => simp [F168, s1, s2, s3, s4, h1, h2, h3, hg, z1, z2, z3, zo, calm, alone, List.range_succ]
theorem tb_ne1 (ha : TrOK vs a.node A La) (hb : TrOK vs b.node B Lb) (f : Bool) {o : Bop} (ho : o = .ne) (c : Cd) (hc : c ≠ []) (hl : c.length + 4 * (La + Lb + 1) < 2^30) : Z base15 (.call 168 [.ptr 0 0, (E.bin f o a b).node] (tst1 vs e0 e1 e2 c)) = some (.ret (.tup []) (tst1 vs e0 e1 e2 (c ++ (snC (snC (sq A B) (16, 0)) (17, 0)) c.length))) := by
 subst ho
 have s1 := os_and .ne
 have s2 := os_or .ne
 have s3 := os_gt .ne
 have s4 := os_ge .ne
 have s5 := os_ne .ne
 have hpa := ha.pos
 have hpb := hb.pos
 have z1 : Z base15 (.call 165 [.ptr 0 0, (E.bin f .ne a b).node, .int 0] (tst1 vs e0 e1 e2 c)) = _ := kid1 (f := f) (N := 2) (i := 0) (e0 := e0) (e1 := e1) (e2 := e2) ha.toTrB rfl (by omega) c hc (by omega)
 have l1 : (c ++ A c.length).length = c.length + La := by rw [List.length_append, ha.ln]
 have z2 : Z base15 (.call 165 [.ptr 0 0, (E.bin f .ne a b).node, .int 1] (tst1 vs e0 e1 e2 (c ++ A c.length))) = _ := kid1 (f := f) (N := 2) (i := 1) (e0 := e0) (e1 := e1) (e2 := e2) hb.toTrB rfl (by omega) (c ++ A c.length) (app_ne hc) (by omega)
 rw [sq_eq] at z2
 have l2 : (c ++ sq A B c.length).length < 2^30 := by rw [List.length_append, ln_sq ha.ln hb.ln]; omega
 have z3 := emit1 (vs := vs) (e0 := e0) (e1 := e1) (e2 := e2) (c ++ sq A B c.length) l2 16 0
 rw [show (c ++ sq A B c.length) ++ [((16 : Int), (0 : Int))] = c ++ snC (sq A B) (16, 0) c.length by simp [snC]] at z3
 have l3 : (c ++ snC (sq A B) (16, 0) c.length).length < 2^30 := by rw [List.length_append, ln_sn (ln_sq ha.ln hb.ln)]; omega
 have z4 := emit1 (vs := vs) (e0 := e0) (e1 := e1) (e2 := e2) (c ++ snC (sq A B) (16, 0) c.length) l3 17 0
 rw [show (c ++ snC (sq A B) (16, 0) c.length) ++ [((17 : Int), (0 : Int))] = c ++ (snC (snC (sq A B) (16, 0)) (17, 0)) c.length by simp [snC]] at z4
 simp only [E.node, kind_bin, num_bin, str_bin, kids_bin] at z1 z2
 generalize c ++ (snC (snC (sq A B) (16, 0)) (17, 0)) c.length = c5 at *
 generalize c ++ snC (sq A B) (16, 0) c.length = c4 at *
 generalize c ++ sq A B c.length = c3 at *
 generalize c ++ A c.length = c1 at *
 refine Z_call (pf := F168) rfl rfl ?_
 simp [F168, s1, s2, s3, s4, s5, isAnd, isOr, isGt, isGe, isNe, z1, z2, z3, z4, calm, alone, List.range_succ]
theorem tb_std1 (ha : TrOK vs a.node A La) (hb : TrOK vs b.node B Lb) (f : Bool) {o : Bop} (h1 : isAnd o = false) (h2 : isOr o = false) (h3 : isGt o = false) (h4 : isGe o = false) (h5 : isNe o = false) (c : Cd) (hc : c ≠ []) (hl : c.length + 4 * (La + Lb + 1) < 2^30) : Z base15 (.call 168 [.ptr 0 0, (E.bin f o a b).node] (tst1 vs e0 e1 e2 c)) = some (.ret (.tup []) (tst1 vs e0 e1 e2 (c ++ (snC (sq A B) (opI o, 0)) c.length))) := by
 have s1 := os_and o
 have s2 := os_or o
 have s3 := os_gt o
 have s4 := os_ge o
 have s5 := os_ne o
 have hpa := ha.pos
 have hpb := hb.pos
 have z1 : Z base15 (.call 165 [.ptr 0 0, (E.bin f o a b).node, .int 0] (tst1 vs e0 e1 e2 c)) = _ := kid1 (f := f) (N := 2) (i := 0) (e0 := e0) (e1 := e1) (e2 := e2) ha.toTrB rfl (by omega) c hc (by omega)
 have l1 : (c ++ A c.length).length = c.length + La := by rw [List.length_append, ha.ln]
 have z2 : Z base15 (.call 165 [.ptr 0 0, (E.bin f o a b).node, .int 1] (tst1 vs e0 e1 e2 (c ++ A c.length))) = _ := kid1 (f := f) (N := 2) (i := 1) (e0 := e0) (e1 := e1) (e2 := e2) hb.toTrB rfl (by omega) (c ++ A c.length) (app_ne hc) (by omega)
 rw [sq_eq] at z2
 have l2 : (c ++ sq A B c.length).length < 2^30 := by rw [List.length_append, ln_sq ha.ln hb.ln]; omega
 have zo := opcode_Z o (fun e => by rw [e] at h1; exact absurd h1 (by decide)) (fun e => by rw [e] at h2; exact absurd h2 (by decide))
 have z3 := emit1 (vs := vs) (e0 := e0) (e1 := e1) (e2 := e2) (c ++ sq A B c.length) l2 (opI o) 0
 rw [show (c ++ sq A B c.length) ++ [(opI o, (0 : Int))] = c ++ (snC (sq A B) (opI o, 0)) c.length by simp [snC]] at z3
 simp only [E.node, kind_bin, num_bin, str_bin, kids_bin] at z1 z2
 generalize c ++ (snC (sq A B) (opI o, 0)) c.length = c5 at *
 generalize c ++ sq A B c.length = c3 at *
 generalize c ++ A c.length = c1 at *
 refine Z_call (pf := F168) rfl rfl ?_
 simp [F168, s1, s2, s3, s4, s5, h1, h2, h3, h4, h5, z1, z2, z3, zo, calm, alone, List.range_succ]
theorem tb_rev0 (ha : TrOK vs a.node A La) (hb : TrOK vs b.node B Lb) (f : Bool) {o : Bop} (h1 : isAnd o = false) (h2 : isOr o = false) (h3 : isGt o = true \/ isGe o = true) (hl : 4 * (La + Lb + 1) < 2^30) : Z base15 (.call 168 [.ptr 0 0, (E.bin f o a b).node] (tst0 vs e0 e1 e2)) = some (.ret (.tup []) (tst2 vs e0 e1 e2 ((snC (sq B A) (opI o, 0)) 0))) := by
 have s1 := os_and o
 have s2 := os_or o
 have s3 := os_gt o
 have s4 := os_ge o
 have s5 := os_ne o
 have hpa := ha.pos
 have hpb := hb.pos
 have z1 : Z base15 (.call 165 [.ptr 0 0, (E.bin f o a b).node, .int 1] (tst0 vs e0 e1 e2)) = _ := kid0 (f := f) (N := 2) (i := 1) (e0 := e0) (e1 := e1) (e2 := e2) hb rfl (by omega) (by omega)
 have l1 : (B 0).length = Lb := hb.ln 0
 have n1 : B 0 ≠ [] := fun e => by rw [e] at l1; simp only [List.length_nil] at l1; have := hb.pos; omega
 have z2 : Z base15 (.call 165 [.ptr 0 0, (E.bin f o a b).node, .int 0] (tst1 vs e0 e1 e2 (B 0))) = _ := kid1 (f := f) (N := 2) (i := 0) (e0 := e0) (e1 := e1) (e2 := e2) ha.toTrB rfl (by omega) (B 0) n1 (by omega)
 rw [show B 0 ++ A (B 0).length = sq B A 0 by simp [sq]] at z2
 have l2 : (sq B A 0).length < 2^30 := by rw [ln_sq hb.ln ha.ln]; omega
 have zo := opcode_Z o (fun e => by rw [e] at h1; exact absurd h1 (by decide)) (fun e => by rw [e] at h2; exact absurd h2 (by decide))
 have z3 := emit1 (vs := vs) (e0 := e0) (e1 := e1) (e2 := e2) (sq B A 0) l2 (opI o) 0
 rw [show (sq B A 0) ++ [(opI o, (0 : Int))] = (snC (sq B A) (opI o, 0)) 0 by simp [snC]] at z3
 simp only [E.node, kind_bin, num_bin, str_bin, kids_bin] at z1 z2
 generalize (snC (sq B A) (opI o, 0)) 0 = c5 at *
 generalize sq B A 0 = c3 at *
 generalize B 0 = c1 at *
 refine Z_call (pf := F168) rfl rfl ?_
 rcases h3 with h3 | h3
 · simp [F168, s1, s2, s3, h1, h2, h3, z1, z2, z3, zo, calm, alone, List.range_succ]
 · cases hg : isGt o with
   | true => simp [F168, s1, s2, s3, h1, h2, hg, z1, z2, z3, zo, calm, alone, List.range_succ]
   | false => simp [F168, s1, s2, s3, s4, h1, h2, h3, hg, z1, z2, z3, zo, calm, alone, List.range_succ]
theorem tb_ne0 (ha : TrOK vs a.node A La) (hb : TrOK vs b.node B Lb) (f : Bool) {o : Bop} (ho : o = .ne) (hl : 4 * (La + Lb + 1) < 2^30) : Z base15 (.call 168 [.ptr 0 0, (E.bin f o a b).node] (tst0 vs e0 e1 e2)) = some (.ret (.tup []) (tst2 vs e0 e1 e2 ((snC (snC (sq A B) (16, 0)) (17, 0)) 0))) := by
 subst ho
 have s1 := os_and .ne
 have s2 := os_or .ne
 have s3 := os_gt .ne
 have s4 := os_ge .ne
 have s5 := os_ne .ne
 have hpa := ha.pos
 have hpb := hb.pos
 have z1 : Z base15 (.call 165 [.ptr 0 0, (E.bin f .ne a b).node, .int 0] (tst0 vs e0 e1 e2)) = _ := kid0 (f := f) (N := 2) (i := 0) (e0 := e0) (e1 := e1) (e2 := e2) ha rfl (by omega) (by omega)
 have l1 : (A 0).length = La := ha.ln 0
 have n1 : A 0 ≠ [] := fun e => by rw [e] at l1; simp only [List.length_nil] at l1; have := ha.pos; omega
 have z2 : Z base15 (.call 165 [.ptr 0 0, (E.bin f .ne a b).node, .int 1] (tst1 vs e0 e1 e2 (A 0))) = _ := kid1 (f := f) (N := 2) (i := 1) (e0 := e0) (e1 := e1) (e2 := e2) hb.toTrB rfl (by omega) (A 0) n1 (by omega)
 rw [show A 0 ++ B (A 0).length = sq A B 0 by simp [sq]] at z2
 have l2 : (sq A B 0).length < 2^30 := by rw [ln_sq ha.ln hb.ln]; omega
 have z3 := emit1 (vs := vs) (e0 := e0) (e1 := e1) (e2 := e2) (sq A B 0) l2 16 0
 rw [show (sq A B 0) ++ [((16 : Int), (0 : Int))] = snC (sq A B) (16, 0) 0 by simp [snC]] at z3
 have l3 : (snC (sq A B) (16, 0) 0).length < 2^30 := by rw [ln_sn (ln_sq ha.ln hb.ln)]; omega
 have z4 := emit1 (vs := vs) (e0 := e0) (e1 := e1) (e2 := e2) (snC (sq A B) (16, 0) 0) l3 17 0
 rw [show (snC (sq A B) (16, 0) 0) ++ [((17 : Int), (0 : Int))] = (snC (snC (sq A B) (16, 0)) (17, 0)) 0 by simp [snC]] at z4
 simp only [E.node, kind_bin, num_bin, str_bin, kids_bin] at z1 z2
 generalize (snC (snC (sq A B) (16, 0)) (17, 0)) 0 = c5 at *
 generalize snC (sq A B) (16, 0) 0 = c4 at *
 generalize sq A B 0 = c3 at *
 generalize A 0 = c1 at *
 refine Z_call (pf := F168) rfl rfl ?_
 simp [F168, s1, s2, s3, s4, s5, isAnd, isOr, isGt, isGe, isNe, z1, z2, z3, z4, calm, alone, List.range_succ]
theorem tb_std0 (ha : TrOK vs a.node A La) (hb : TrOK vs b.node B Lb) (f : Bool) {o : Bop} (h1 : isAnd o = false) (h2 : isOr o = false) (h3 : isGt o = false) (h4 : isGe o = false) (h5 : isNe o = false) (hl : 4 * (La + Lb + 1) < 2^30) : Z base15 (.call 168 [.ptr 0 0, (E.bin f o a b).node] (tst0 vs e0 e1 e2)) = some (.ret (.tup []) (tst2 vs e0 e1 e2 ((snC (sq A B) (opI o, 0)) 0))) := by
 have s1 := os_and o
 have s2 := os_or o
 have s3 := os_gt o
 have s4 := os_ge o
 have s5 := os_ne o
 have hpa := ha.pos
 have hpb := hb.pos
 have z1 : Z base15 (.call 165 [.ptr 0 0, (E.bin f o a b).node, .int 0] (tst0 vs e0 e1 e2)) = _ := kid0 (f := f) (N := 2) (i := 0) (e0 := e0) (e1 := e1) (e2 := e2) ha rfl (by omega) (by omega)
 have l1 : (A 0).length = La := ha.ln 0
 have n1 : A 0 ≠ [] := fun e => by rw [e] at l1; simp only [List.length_nil] at l1; have := ha.pos; omega
 have z2 : Z base15 (.call 165 [.ptr 0 0, (E.bin f o a b).node, .int 1] (tst1 vs e0 e1 e2 (A 0))) = _ := kid1 (f := f) (N := 2) (i := 1) (e0 := e0) (e1 := e1) (e2 := e2) hb.toTrB rfl (by omega) (A 0) n1 (by omega)
 rw [show A 0 ++ B (A 0).length = sq A B 0 by simp [sq]] at z2
 have l2 : (sq A B 0).length < 2^30 := by rw [ln_sq ha.ln hb.ln]; omega
 have zo := opcode_Z o (fun e => by rw [e] at h1; exact absurd h1 (by decide)) (fun e => by rw [e] at h2; exact absurd h2 (by decide))
 have z3 := emit1 (vs := vs) (e0 := e0) (e1 := e1) (e2 := e2) (sq A B 0) l2 (opI o) 0
 rw [show (sq A B 0) ++ [(opI o, (0 : Int))] = (snC (sq A B) (opI o, 0)) 0 by simp [snC]] at z3
 simp only [E.node, kind_bin, num_bin, str_bin, kids_bin] at z1 z2
 generalize (snC (sq A B) (opI o, 0)) 0 = c5 at *
 generalize sq A B 0 = c3 at *
 generalize A 0 = c1 at *
 refine Z_call (pf := F168) rfl rfl ?_
 simp [F168, s1, s2, s3, s4, s5, h1, h2, h3, h4, h5, z1, z2, z3, zo, calm, alone, List.range_succ]
end
end Go.Pm
end SDf
section SDg
namespace Go.Pm
open F Gr
set_option maxHeartbeats 2000000
attribute [local simp] locs_mapM ren_mapM dkey rkey
section
variable {vs : List ByteArray} {a b : E} {A B : Int -> Cd} {La Lb : Nat}
theorem tr_bin_of (f : Bool) (o : Bop) {K : Nat} (hk : Ln (binC o A B) K) (h0 : 0 < K) (h1 : ∀ (e0 e1 e2 : Int) (c : Cd), c ≠ [] -> c.length + 4 * K < 2^30 -> Z base15 (.call 168 [.ptr 0 0, (E.bin f o a b).node] (tst1 vs e0 e1 e2 c)) = some (.ret (.tup []) (tst1 vs e0 e1 e2 (c ++ (binC o A B) c.length))))
   (h2 : ∀ (e0 e1 e2 : Int), 4 * K < 2^30 -> Z base15 (.call 168 [.ptr 0 0, (E.bin f o a b).node] (tst0 vs e0 e1 e2)) = some (.ret (.tup []) (tst2 vs e0 e1 e2 ((binC o A B) 0)))) : TrOK vs (E.bin f o a b).node (binC o A B) K where
 ln := hk
 pos := h0
 one := fun e0 e1 e2 c hc hl => by
   have z := h1 e0 e1 e2 c hc hl
   simp only [E.node, kind_bin, num_bin, str_bin, kids_bin] at z
   generalize c ++ binC o A B c.length = c2 at *
   refine Z_call (pf := F147) rfl rfl ?_
   simp [F147, z, List.range_succ]
 zero := fun e0 e1 e2 hl => by
   have z := h2 e0 e1 e2 hl
   simp only [E.node, kind_bin, num_bin, str_bin, kids_bin] at z
   generalize binC o A B 0 = c2 at *
   refine Z_call (pf := F147) rfl rfl ?_
   simp [F147, z, List.range_succ]
theorem tr_bin (ha : TrOK vs a.node A La) (hb : TrOK vs b.node B Lb) (f : Bool) (o : Bop) : ∃ K, TrOK vs (E.bin f o a b).node (binC o A B) K := by
 have h1 : Ln (fun _ => [((1 : Int), (0 : Int))]) 1 := fun _ => rfl
 have h1' : Ln (fun _ => [((1 : Int), (1 : Int))]) 1 := fun _ => rfl
 have pa := ha.pos
 have pb := hb.pos
 cases o
 case and => exact ⟨_, tr_bin_of f .and (ln_br ha.ln hb.ln h1) (by omega) (fun e0 e1 e2 c hc hl => tb_and1 ha hb f c hc (by omega)) (fun e0 e1 e2 hl => tb_and0 ha hb f (by omega))⟩
 case or => exact ⟨_, tr_bin_of f .or (ln_br ha.ln h1' hb.ln) (by omega) (fun e0 e1 e2 c hc hl => tb_or1 ha hb f c hc (by omega)) (fun e0 e1 e2 hl => tb_or0 ha hb f (by omega))⟩
 case gt => exact ⟨_, tr_bin_of f .gt (ln_sn (ln_sq hb.ln ha.ln)) (by omega) (fun e0 e1 e2 c hc hl => tb_rev1 ha hb f (o := .gt) rfl rfl (.inl rfl) c hc (by omega)) (fun e0 e1 e2 hl => tb_rev0 ha hb f (o := .gt) rfl rfl (.inl rfl) (by omega))⟩
 case ge => exact ⟨_, tr_bin_of f .ge (ln_sn (ln_sq hb.ln ha.ln)) (by omega) (fun e0 e1 e2 c hc hl => tb_rev1 ha hb f (o := .ge) rfl rfl (.inr rfl) c hc (by omega)) (fun e0 e1 e2 hl => tb_rev0 ha hb f (o := .ge) rfl rfl (.inr rfl) (by omega))⟩
 case ne => exact ⟨_, tr_bin_of f .ne (ln_sn (ln_sn (ln_sq ha.ln hb.ln))) (by omega) (fun e0 e1 e2 c hc hl => tb_ne1 ha hb f rfl c hc (by omega)) (fun e0 e1 e2 hl => tb_ne0 ha hb f rfl (by omega))⟩
 case add => exact ⟨_, tr_bin_of f .add (ln_sn (ln_sq ha.ln hb.ln)) (by omega) (fun e0 e1 e2 c hc hl => tb_std1 ha hb f (o := .add) rfl rfl rfl rfl rfl c hc (by omega)) (fun e0 e1 e2 hl => tb_std0 ha hb f (o := .add) rfl rfl rfl rfl rfl (by omega))⟩
 case sub => exact ⟨_, tr_bin_of f .sub (ln_sn (ln_sq ha.ln hb.ln)) (by omega) (fun e0 e1 e2 c hc hl => tb_std1 ha hb f (o := .sub) rfl rfl rfl rfl rfl c hc (by omega)) (fun e0 e1 e2 hl => tb_std0 ha hb f (o := .sub) rfl rfl rfl rfl rfl (by omega))⟩
 case mul => exact ⟨_, tr_bin_of f .mul (ln_sn (ln_sq ha.ln hb.ln)) (by omega) (fun e0 e1 e2 c hc hl => tb_std1 ha hb f (o := .mul) rfl rfl rfl rfl rfl c hc (by omega)) (fun e0 e1 e2 hl => tb_std0 ha hb f (o := .mul) rfl rfl rfl rfl rfl (by omega))⟩
 case div => exact ⟨_, tr_bin_of f .div (ln_sn (ln_sq ha.ln hb.ln)) (by omega) (fun e0 e1 e2 c hc hl => tb_std1 ha hb f (o := .div) rfl rfl rfl rfl rfl c hc (by omega)) (fun e0 e1 e2 hl => tb_std0 ha hb f (o := .div) rfl rfl rfl rfl rfl (by omega))⟩
 case lt => exact ⟨_, tr_bin_of f .lt (ln_sn (ln_sq ha.ln hb.ln)) (by omega) (fun e0 e1 e2 c hc hl => tb_std1 ha hb f (o := .lt) rfl rfl rfl rfl rfl c hc (by omega)) (fun e0 e1 e2 hl => tb_std0 ha hb f (o := .lt) rfl rfl rfl rfl rfl (by omega))⟩
 case le => exact ⟨_, tr_bin_of f .le (ln_sn (ln_sq ha.ln hb.ln)) (by omega) (fun e0 e1 e2 c hc hl => tb_std1 ha hb f (o := .le) rfl rfl rfl rfl rfl c hc (by omega)) (fun e0 e1 e2 hl => tb_std0 ha hb f (o := .le) rfl rfl rfl rfl rfl (by omega))⟩
 case eq => exact ⟨_, tr_bin_of f .eq (ln_sn (ln_sq ha.ln hb.ln)) (by omega) (fun e0 e1 e2 c hc hl => tb_std1 ha hb f (o := .eq) rfl rfl rfl rfl rfl c hc (by omega)) (fun e0 e1 e2 hl => tb_std0 ha hb f (o := .eq) rfl rfl rfl rfl rfl (by omega))⟩
theorem tr_E : ∀ e : E, e.fine -> e.inV vs -> ∃ L, TrOK vs e.node (codeE vs e) L
 | .int n, _, _ => ⟨_, tr_int n⟩
 | .bool n, _, _ => ⟨_, tr_bool n⟩
 | .var s, _, g => ⟨_, tr_var g⟩
 | .name s, _, _ => ⟨_, tr_name s⟩
 | .field f s e, h, g => let ⟨_, k⟩ := tr_E e h.2.1 g; ⟨_, tr_field f h.1 k⟩
 | .un f true e, h, g => let ⟨_, k⟩ := tr_E e h.1 g; ⟨_, tr_un_true f k⟩
 | .un f false e, h, g => let ⟨_, k⟩ := tr_E e h.1 g; ⟨_, tr_un_false f k⟩
 | .bin f o a b, h, g => let ⟨_, k⟩ := tr_E a h.1 g.1; let ⟨_, k'⟩ := tr_E b h.2.1 g.2; tr_bin k k' f o
end
end Go.Pm
end SDg
section SDh
namespace Go.Pm
open F Gr
set_option maxHeartbeats 2000000
attribute [local simp] locs_mapM ren_mapM dkey rkey
section
variable {vs : List ByteArray} {a b : E} {A B : Int -> Cd} {La Lb : Nat} {e0 e1 e2 : Int}
theorem ts_assign (f : Bool) {s : ByteArray} (hs : s ∈ vs) (ha : TrOK vs a.node A La) : TrOK vs (nd 1 0 s f (a.fo .nil)) (snC A (3, ixI vs s)) (La + 1) where
 ln := ln_sn ha.ln
 pos := by omega
 one := fun e0 e1 e2 c hc hl => by
   have hpa := ha.pos
   have zf := find_ix s vs 0 hs
   rw [show ixI vs s + ((0 : Nat) : Int) = ixI vs s by omega] at zf
   have z1 : Z base15 (.call 165 [.ptr 0 0, .dat (.agg [.lit (.int .i64 1), .lit (.int .i64 0), .lit (.string s), .sl [.lit (.int .i64 a.kind), .lit (.int .i64 a.num), .lit (.string a.str), a.kids] 1 f]), .int 0] (tst1 vs e0 e1 e2 c)) = _ := kid1 (f := f) (N := 1) (i := 0) (e0 := e0) (e1 := e1) (e2 := e2) ha.toTrB rfl (by omega) c hc (by omega)
   have l1 : (c ++ A c.length).length < 2^30 := by rw [List.length_append, ha.ln]; omega
   have z3 := emit1 (vs := vs) (e0 := e0) (e1 := e1) (e2 := e2) (c ++ A c.length) (by omega) 3 (ixI vs s)
   rw [show (c ++ A c.length) ++ [((3 : Int), (ixI vs s : Int))] = c ++ (snC A (3, ixI vs s)) c.length by simp [snC]] at z3
   generalize c ++ (snC A (3, ixI vs s)) c.length = c5 at *
   generalize c ++ A c.length = c1 at *
   have zs : Z base15 (.call 169 [.ptr 0 0, .dat (.agg [.lit (.int .i64 1), .lit (.int .i64 0), .lit (.string s), .sl [.lit (.int .i64 a.kind), .lit (.int .i64 a.num), .lit (.string a.str), a.kids] 1 f])] (tst1 vs e0 e1 e2 c)) = some (.ret (.tup []) (tst1 vs e0 e1 e2 c5)) := by
     refine Z_call (pf := F169) rfl rfl ?_
     simp [F169, z1, z3, zf, keyOk, calm, alone, List.range_succ]
   refine Z_call (pf := F147) rfl rfl ?_
   simp [F147, zs, List.range_succ]
 zero := fun e0 e1 e2 hl => by
   have hpa := ha.pos
   have zf := find_ix s vs 0 hs
   rw [show ixI vs s + ((0 : Nat) : Int) = ixI vs s by omega] at zf
   have z1 : Z base15 (.call 165 [.ptr 0 0, .dat (.agg [.lit (.int .i64 1), .lit (.int .i64 0), .lit (.string s), .sl [.lit (.int .i64 a.kind), .lit (.int .i64 a.num), .lit (.string a.str), a.kids] 1 f]), .int 0] (tst0 vs e0 e1 e2)) = _ := kid0 (f := f) (N := 1) (i := 0) (e0 := e0) (e1 := e1) (e2 := e2) ha rfl (by omega) (by omega)
   have l1 : (A 0).length < 2^30 := by rw [ha.ln]; omega
   have z3 := emit1 (vs := vs) (e0 := e0) (e1 := e1) (e2 := e2) (A 0) (by omega) 3 (ixI vs s)
   rw [show (A 0) ++ [((3 : Int), (ixI vs s : Int))] = (snC A (3, ixI vs s)) 0 by simp [snC]] at z3
   generalize (snC A (3, ixI vs s)) 0 = c5 at *
   generalize A 0 = c1 at *
   have zs : Z base15 (.call 169 [.ptr 0 0, .dat (.agg [.lit (.int .i64 1), .lit (.int .i64 0), .lit (.string s), .sl [.lit (.int .i64 a.kind), .lit (.int .i64 a.num), .lit (.string a.str), a.kids] 1 f])] (tst0 vs e0 e1 e2)) = some (.ret (.tup []) (tst2 vs e0 e1 e2 c5)) := by
     refine Z_call (pf := F169) rfl rfl ?_
     simp [F169, z1, z3, zf, keyOk, calm, alone, List.range_succ]
   refine Z_call (pf := F147) rfl rfl ?_
   simp [F147, zs, List.range_succ]
theorem ts_store (f : Bool) {s : ByteArray} (hs : s ∈ fieldL) (ha : TrOK vs a.node A La) (hb : TrOK vs b.node B Lb) : TrOK vs (nd 2 0 s f (a.fo (b.fo .nil))) (snC (sq A B) (5, fieldI s)) (La + Lb + 1) where
 ln := ln_sn (ln_sq ha.ln hb.ln)
 pos := by omega
 one := fun e0 e1 e2 c hc hl => by
   have hpa := ha.pos
   have hpb := hb.pos
   have zf := lfield_Z hs
   have z1 : Z base15 (.call 165 [.ptr 0 0, .dat (.agg [.lit (.int .i64 2), .lit (.int .i64 0), .lit (.string s), .sl [.lit (.int .i64 a.kind), .lit (.int .i64 a.num), .lit (.string a.str), a.kids, .lit (.int .i64 b.kind), .lit (.int .i64 b.num), .lit (.string b.str), b.kids] 2 f]), .int 0] (tst1 vs e0 e1 e2 c)) = _ := kid1 (f := f) (N := 2) (i := 0) (e0 := e0) (e1 := e1) (e2 := e2) ha.toTrB rfl (by omega) c hc (by omega)
   have l1 : (c ++ A c.length).length < 2^30 := by rw [List.length_append, ha.ln]; omega
   have l1' : (c ++ A c.length).length = c.length + La := by rw [List.length_append, ha.ln]
   have z2 : Z base15 (.call 165 [.ptr 0 0, .dat (.agg [.lit (.int .i64 2), .lit (.int .i64 0), .lit (.string s), .sl [.lit (.int .i64 a.kind), .lit (.int .i64 a.num), .lit (.string a.str), a.kids, .lit (.int .i64 b.kind), .lit (.int .i64 b.num), .lit (.string b.str), b.kids] 2 f]), .int 1] (tst1 vs e0 e1 e2 (c ++ A c.length))) = _ := kid1 (f := f) (N := 2) (i := 1) (e0 := e0) (e1 := e1) (e2 := e2) hb.toTrB rfl (by omega) (c ++ A c.length) (app_ne hc) (by omega)
   rw [sq_eq] at z2
   have l2 : (c ++ sq A B c.length).length < 2^30 := by rw [List.length_append, ln_sq ha.ln hb.ln]; omega
   have z3 := emit1 (vs := vs) (e0 := e0) (e1 := e1) (e2 := e2) (c ++ sq A B c.length) l2 5 (fieldI s)
   rw [show (c ++ sq A B c.length) ++ [((5 : Int), (fieldI s : Int))] = c ++ (snC (sq A B) (5, fieldI s)) c.length by simp [snC]] at z3
   generalize c ++ (snC (sq A B) (5, fieldI s)) c.length = c5 at *
   generalize c ++ sq A B c.length = c3 at *
   generalize c ++ A c.length = c1 at *
   have zs : Z base15 (.call 169 [.ptr 0 0, .dat (.agg [.lit (.int .i64 2), .lit (.int .i64 0), .lit (.string s), .sl [.lit (.int .i64 a.kind), .lit (.int .i64 a.num), .lit (.string a.str), a.kids, .lit (.int .i64 b.kind), .lit (.int .i64 b.num), .lit (.string b.str), b.kids] 2 f])] (tst1 vs e0 e1 e2 c)) = some (.ret (.tup []) (tst1 vs e0 e1 e2 c5)) := by
     refine Z_call (pf := F169) rfl rfl ?_
     simp [F169, z1, z2, z3, zf, keyOk, calm, alone, List.range_succ]
   refine Z_call (pf := F147) rfl rfl ?_
   simp [F147, zs, List.range_succ]
 zero := fun e0 e1 e2 hl => by
   have hpa := ha.pos
   have hpb := hb.pos
   have zf := lfield_Z hs
   have z1 : Z base15 (.call 165 [.ptr 0 0, .dat (.agg [.lit (.int .i64 2), .lit (.int .i64 0), .lit (.string s), .sl [.lit (.int .i64 a.kind), .lit (.int .i64 a.num), .lit (.string a.str), a.kids, .lit (.int .i64 b.kind), .lit (.int .i64 b.num), .lit (.string b.str), b.kids] 2 f]), .int 0] (tst0 vs e0 e1 e2)) = _ := kid0 (f := f) (N := 2) (i := 0) (e0 := e0) (e1 := e1) (e2 := e2) ha rfl (by omega) (by omega)
   have l1 : (A 0).length < 2^30 := by rw [ha.ln]; omega
   have n1 : A 0 ≠ [] := fun e => by have := ha.ln 0; rw [e] at this; simp only [List.length_nil] at this; omega
   have l1' := ha.ln 0
   have z2 : Z base15 (.call 165 [.ptr 0 0, .dat (.agg [.lit (.int .i64 2), .lit (.int .i64 0), .lit (.string s), .sl [.lit (.int .i64 a.kind), .lit (.int .i64 a.num), .lit (.string a.str), a.kids, .lit (.int .i64 b.kind), .lit (.int .i64 b.num), .lit (.string b.str), b.kids] 2 f]), .int 1] (tst1 vs e0 e1 e2 (A 0))) = _ := kid1 (f := f) (N := 2) (i := 1) (e0 := e0) (e1 := e1) (e2 := e2) hb.toTrB rfl (by omega) (A 0) n1 (by omega)
   rw [show A 0 ++ B (A 0).length = sq A B 0 by simp [sq]] at z2
   have l2 : (sq A B 0).length < 2^30 := by rw [ln_sq ha.ln hb.ln]; omega
   have z3 := emit1 (vs := vs) (e0 := e0) (e1 := e1) (e2 := e2) (sq A B 0) l2 5 (fieldI s)
   rw [show (sq A B 0) ++ [((5 : Int), (fieldI s : Int))] = (snC (sq A B) (5, fieldI s)) 0 by simp [snC]] at z3
   generalize (snC (sq A B) (5, fieldI s)) 0 = c5 at *
   generalize sq A B 0 = c3 at *
   generalize A 0 = c1 at *
   have zs : Z base15 (.call 169 [.ptr 0 0, .dat (.agg [.lit (.int .i64 2), .lit (.int .i64 0), .lit (.string s), .sl [.lit (.int .i64 a.kind), .lit (.int .i64 a.num), .lit (.string a.str), a.kids, .lit (.int .i64 b.kind), .lit (.int .i64 b.num), .lit (.string b.str), b.kids] 2 f])] (tst0 vs e0 e1 e2)) = some (.ret (.tup []) (tst2 vs e0 e1 e2 c5)) := by
     refine Z_call (pf := F169) rfl rfl ?_
     simp [F169, z1, z2, z3, zf, keyOk, calm, alone, List.range_succ]
   refine Z_call (pf := F147) rfl rfl ?_
   simp [F147, zs, List.range_succ]
theorem ts_effect (f : Bool) (ha : TrOK vs a.node A La) (hb : TrOK vs b.node B Lb) : TrOK vs (nd 5 0 ⟨#[]⟩ f (a.fo (b.fo .nil))) (snC (sq A B) (20, 0)) (La + Lb + 1) where
 ln := ln_sn (ln_sq ha.ln hb.ln)
 pos := by omega
 one := fun e0 e1 e2 c hc hl => by
   have hpa := ha.pos
   have hpb := hb.pos
   have z1 : Z base15 (.call 165 [.ptr 0 0, .dat (.agg [.lit (.int .i64 5), .lit (.int .i64 0), .lit (.string ⟨#[]⟩), .sl [.lit (.int .i64 a.kind), .lit (.int .i64 a.num), .lit (.string a.str), a.kids, .lit (.int .i64 b.kind), .lit (.int .i64 b.num), .lit (.string b.str), b.kids] 2 f]), .int 0] (tst1 vs e0 e1 e2 c)) = _ := kid1 (f := f) (N := 2) (i := 0) (e0 := e0) (e1 := e1) (e2 := e2) ha.toTrB rfl (by omega) c hc (by omega)
   have l1 : (c ++ A c.length).length < 2^30 := by rw [List.length_append, ha.ln]; omega
   have l1' : (c ++ A c.length).length = c.length + La := by rw [List.length_append, ha.ln]
   have z2 : Z base15 (.call 165 [.ptr 0 0, .dat (.agg [.lit (.int .i64 5), .lit (.int .i64 0), .lit (.string ⟨#[]⟩), .sl [.lit (.int .i64 a.kind), .lit (.int .i64 a.num), .lit (.string a.str), a.kids, .lit (.int .i64 b.kind), .lit (.int .i64 b.num), .lit (.string b.str), b.kids] 2 f]), .int 1] (tst1 vs e0 e1 e2 (c ++ A c.length))) = _ := kid1 (f := f) (N := 2) (i := 1) (e0 := e0) (e1 := e1) (e2 := e2) hb.toTrB rfl (by omega) (c ++ A c.length) (app_ne hc) (by omega)
   rw [sq_eq] at z2
   have l2 : (c ++ sq A B c.length).length < 2^30 := by rw [List.length_append, ln_sq ha.ln hb.ln]; omega
   have z3 := emit1 (vs := vs) (e0 := e0) (e1 := e1) (e2 := e2) (c ++ sq A B c.length) l2 20 (0)
   rw [show (c ++ sq A B c.length) ++ [((20 : Int), (0 : Int))] = c ++ (snC (sq A B) (20, 0)) c.length by simp [snC]] at z3
   generalize c ++ (snC (sq A B) (20, 0)) c.length = c5 at *
   generalize c ++ sq A B c.length = c3 at *
   generalize c ++ A c.length = c1 at *
   have zs : Z base15 (.call 169 [.ptr 0 0, .dat (.agg [.lit (.int .i64 5), .lit (.int .i64 0), .lit (.string ⟨#[]⟩), .sl [.lit (.int .i64 a.kind), .lit (.int .i64 a.num), .lit (.string a.str), a.kids, .lit (.int .i64 b.kind), .lit (.int .i64 b.num), .lit (.string b.str), b.kids] 2 f])] (tst1 vs e0 e1 e2 c)) = some (.ret (.tup []) (tst1 vs e0 e1 e2 c5)) := by
     refine Z_call (pf := F169) rfl rfl ?_
     simp [F169, z1, z2, z3, keyOk, calm, alone, List.range_succ]
   refine Z_call (pf := F147) rfl rfl ?_
   simp [F147, zs, List.range_succ]
 zero := fun e0 e1 e2 hl => by
   have hpa := ha.pos
   have hpb := hb.pos
   have z1 : Z base15 (.call 165 [.ptr 0 0, .dat (.agg [.lit (.int .i64 5), .lit (.int .i64 0), .lit (.string ⟨#[]⟩), .sl [.lit (.int .i64 a.kind), .lit (.int .i64 a.num), .lit (.string a.str), a.kids, .lit (.int .i64 b.kind), .lit (.int .i64 b.num), .lit (.string b.str), b.kids] 2 f]), .int 0] (tst0 vs e0 e1 e2)) = _ := kid0 (f := f) (N := 2) (i := 0) (e0 := e0) (e1 := e1) (e2 := e2) ha rfl (by omega) (by omega)
   have l1 : (A 0).length < 2^30 := by rw [ha.ln]; omega
   have n1 : A 0 ≠ [] := fun e => by have := ha.ln 0; rw [e] at this; simp only [List.length_nil] at this; omega
   have l1' := ha.ln 0
   have z2 : Z base15 (.call 165 [.ptr 0 0, .dat (.agg [.lit (.int .i64 5), .lit (.int .i64 0), .lit (.string ⟨#[]⟩), .sl [.lit (.int .i64 a.kind), .lit (.int .i64 a.num), .lit (.string a.str), a.kids, .lit (.int .i64 b.kind), .lit (.int .i64 b.num), .lit (.string b.str), b.kids] 2 f]), .int 1] (tst1 vs e0 e1 e2 (A 0))) = _ := kid1 (f := f) (N := 2) (i := 1) (e0 := e0) (e1 := e1) (e2 := e2) hb.toTrB rfl (by omega) (A 0) n1 (by omega)
   rw [show A 0 ++ B (A 0).length = sq A B 0 by simp [sq]] at z2
   have l2 : (sq A B 0).length < 2^30 := by rw [ln_sq ha.ln hb.ln]; omega
   have z3 := emit1 (vs := vs) (e0 := e0) (e1 := e1) (e2 := e2) (sq A B 0) l2 20 (0)
   rw [show (sq A B 0) ++ [((20 : Int), (0 : Int))] = (snC (sq A B) (20, 0)) 0 by simp [snC]] at z3
   generalize (snC (sq A B) (20, 0)) 0 = c5 at *
   generalize sq A B 0 = c3 at *
   generalize A 0 = c1 at *
   have zs : Z base15 (.call 169 [.ptr 0 0, .dat (.agg [.lit (.int .i64 5), .lit (.int .i64 0), .lit (.string ⟨#[]⟩), .sl [.lit (.int .i64 a.kind), .lit (.int .i64 a.num), .lit (.string a.str), a.kids, .lit (.int .i64 b.kind), .lit (.int .i64 b.num), .lit (.string b.str), b.kids] 2 f])] (tst0 vs e0 e1 e2)) = some (.ret (.tup []) (tst2 vs e0 e1 e2 c5)) := by
     refine Z_call (pf := F169) rfl rfl ?_
     simp [F169, z1, z2, z3, keyOk, calm, alone, List.range_succ]
   refine Z_call (pf := F147) rfl rfl ?_
   simp [F147, zs, List.range_succ]
theorem ts_stop (f : Bool) : TrOK vs (nd 6 0 ⟨#[]⟩ f .nil) (fun _ => [(21, 0)]) 1 where
 ln := fun _ => rfl
 pos := by omega
 one := fun e0 e1 e2 c hc hl => by
   have z := emit1 (vs := vs) (e0 := e0) (e1 := e1) (e2 := e2) c (by omega) 21 0
   generalize c ++ [((21 : Int), (0 : Int))] = c2 at *
   have zs : Z base15 (.call 169 [.ptr 0 0, .dat (.agg [.lit (.int .i64 6), .lit (.int .i64 0), .lit (.string ⟨#[]⟩), .lit (.slice none 0 0)])] (tst1 vs e0 e1 e2 c)) = some (.ret (.tup []) (tst1 vs e0 e1 e2 c2)) := by
     refine Z_call (pf := F169) rfl rfl ?_
     simp [F169, z, List.range_succ]
   refine Z_call (pf := F147) rfl rfl ?_
   simp [F147, zs, List.range_succ]
 zero := fun e0 e1 e2 hl => by
   have z := emit0 (vs := vs) (e0 := e0) (e1 := e1) (e2 := e2) 21 0
   generalize [((21 : Int), (0 : Int))] = c2 at *
   have zs : Z base15 (.call 169 [.ptr 0 0, .dat (.agg [.lit (.int .i64 6), .lit (.int .i64 0), .lit (.string ⟨#[]⟩), .lit (.slice none 0 0)])] (tst0 vs e0 e1 e2)) = some (.ret (.tup []) (tst2 vs e0 e1 e2 c2)) := by
     refine Z_call (pf := F169) rfl rfl ?_
     simp [F169, z, List.range_succ]
   refine Z_call (pf := F147) rfl rfl ?_
   simp [F147, zs, List.range_succ]
theorem ts_if (f f1 f2 : Bool) {x y : Fo} {X Y : Int -> Cd} {Lx Ly : Nat} (ha : TrOK vs a.node A La) (hx : TrB vs (nd 7 0 ⟨#[]⟩ f1 x) X Lx) (hy : TrB vs (nd 7 0 ⟨#[]⟩ f2 y) Y Ly) :
   TrOK vs (nd 3 0 ⟨#[]⟩ f (a.fo (.cons 7 0 ⟨#[]⟩ f1 x (.cons 7 0 ⟨#[]⟩ f2 y .nil)))) (brC A X Y) (La + Lx + Ly + 2) where
 ln := ln_br ha.ln hx.ln hy.ln
 pos := by omega
 one := fun e0 e1 e2 c hc hl => by
   have hpa := ha.pos
   have z := choice22_1 (vs := vs) (e0 := e0) (e1 := e1) (e2 := e2) (clo188 (k := 3) (n := 0) (s := ⟨#[]⟩) (f := f) (N := 3) (cs := [.lit (.int .i64 a.kind), .lit (.int .i64 a.num), .lit (.string a.str), a.kids, .lit (.int .i64 7), .lit (.int .i64 0), .lit (.string ⟨#[]⟩), kd f1 x.len x.cells, .lit (.int .i64 7), .lit (.int .i64 0), .lit (.string ⟨#[]⟩), kd f2 y.len y.cells]) ha.toTrB rfl (by omega)) (clo189 (k := 3) (n := 0) (s := ⟨#[]⟩) (f := f) (N := 3) (cs := [.lit (.int .i64 a.kind), .lit (.int .i64 a.num), .lit (.string a.str), a.kids, .lit (.int .i64 7), .lit (.int .i64 0), .lit (.string ⟨#[]⟩), kd f1 x.len x.cells, .lit (.int .i64 7), .lit (.int .i64 0), .lit (.string ⟨#[]⟩), kd f2 y.len y.cells]) hx rfl (by omega)) (clo190 (k := 3) (n := 0) (s := ⟨#[]⟩) (f := f) (N := 3) (cs := [.lit (.int .i64 a.kind), .lit (.int .i64 a.num), .lit (.string a.str), a.kids, .lit (.int .i64 7), .lit (.int .i64 0), .lit (.string ⟨#[]⟩), kd f1 x.len x.cells, .lit (.int .i64 7), .lit (.int .i64 0), .lit (.string ⟨#[]⟩), kd f2 y.len y.cells]) hy rfl (by omega)) c hc (by omega) ha.pos
   simp only [nbo, kd_s] at z
   generalize c ++ brC A X Y c.length = c5 at *
   have zs : Z base15 (.call 169 [.ptr 0 0, .dat (.agg [.lit (.int .i64 3), .lit (.int .i64 0), .lit (.string ⟨#[]⟩), .sl [.lit (.int .i64 a.kind), .lit (.int .i64 a.num), .lit (.string a.str), a.kids, .lit (.int .i64 7), .lit (.int .i64 0), .lit (.string ⟨#[]⟩), kd f1 x.len x.cells, .lit (.int .i64 7), .lit (.int .i64 0), .lit (.string ⟨#[]⟩), kd f2 y.len y.cells] 3 f])] (tst1 vs e0 e1 e2 c)) = some (.ret (.tup []) (tst1 vs e0 e1 e2 c5)) := by
     refine Z_call (pf := F169) rfl rfl ?_
     simp [F169, z, List.range_succ]
   refine Z_call (pf := F147) rfl rfl ?_
   simp [F147, zs, List.range_succ]
 zero := fun e0 e1 e2 hl => by
   have hpa := ha.pos
   have z := choice22_0 (vs := vs) (e0 := e0) (e1 := e1) (e2 := e2) (clo188 (k := 3) (n := 0) (s := ⟨#[]⟩) (f := f) (N := 3) (cs := [.lit (.int .i64 a.kind), .lit (.int .i64 a.num), .lit (.string a.str), a.kids, .lit (.int .i64 7), .lit (.int .i64 0), .lit (.string ⟨#[]⟩), kd f1 x.len x.cells, .lit (.int .i64 7), .lit (.int .i64 0), .lit (.string ⟨#[]⟩), kd f2 y.len y.cells]) ha.toTrB rfl (by omega)) (cloz188 (k := 3) (n := 0) (s := ⟨#[]⟩) (f := f) (N := 3) (cs := [.lit (.int .i64 a.kind), .lit (.int .i64 a.num), .lit (.string a.str), a.kids, .lit (.int .i64 7), .lit (.int .i64 0), .lit (.string ⟨#[]⟩), kd f1 x.len x.cells, .lit (.int .i64 7), .lit (.int .i64 0), .lit (.string ⟨#[]⟩), kd f2 y.len y.cells]) ha rfl (by omega) (by omega)) (clo189 (k := 3) (n := 0) (s := ⟨#[]⟩) (f := f) (N := 3) (cs := [.lit (.int .i64 a.kind), .lit (.int .i64 a.num), .lit (.string a.str), a.kids, .lit (.int .i64 7), .lit (.int .i64 0), .lit (.string ⟨#[]⟩), kd f1 x.len x.cells, .lit (.int .i64 7), .lit (.int .i64 0), .lit (.string ⟨#[]⟩), kd f2 y.len y.cells]) hx rfl (by omega)) (clo190 (k := 3) (n := 0) (s := ⟨#[]⟩) (f := f) (N := 3) (cs := [.lit (.int .i64 a.kind), .lit (.int .i64 a.num), .lit (.string a.str), a.kids, .lit (.int .i64 7), .lit (.int .i64 0), .lit (.string ⟨#[]⟩), kd f1 x.len x.cells, .lit (.int .i64 7), .lit (.int .i64 0), .lit (.string ⟨#[]⟩), kd f2 y.len y.cells]) hy rfl (by omega)) (by omega) ha.pos
   simp only [nbo, kd_s] at z
   generalize brC A X Y 0 = c5 at *
   have zs : Z base15 (.call 169 [.ptr 0 0, .dat (.agg [.lit (.int .i64 3), .lit (.int .i64 0), .lit (.string ⟨#[]⟩), .sl [.lit (.int .i64 a.kind), .lit (.int .i64 a.num), .lit (.string a.str), a.kids, .lit (.int .i64 7), .lit (.int .i64 0), .lit (.string ⟨#[]⟩), kd f1 x.len x.cells, .lit (.int .i64 7), .lit (.int .i64 0), .lit (.string ⟨#[]⟩), kd f2 y.len y.cells] 3 f])] (tst0 vs e0 e1 e2)) = some (.ret (.tup []) (tst2 vs e0 e1 e2 c5)) := by
     refine Z_call (pf := F169) rfl rfl ?_
     simp [F169, z, List.range_succ]
   refine Z_call (pf := F147) rfl rfl ?_
   simp [F147, zs, List.range_succ]
theorem wh_eq (A X : Int -> Cd) (c : Cd) : (c ++ A c.length) ++ (19, ((((c ++ A c.length) ++ [((19 : Int), (0 : Int))]) ++ X ((c ++ A c.length) ++ [((19 : Int), (0 : Int))]).length ++ [((18 : Int), (c.length : Int))]).length : Int)) :: (X ((c ++ A c.length) ++ [((19 : Int), (0 : Int))]).length ++ [((18 : Int), (c.length : Int))]) = c ++ whC A X c.length := by
 have e : ((((c ++ A c.length) ++ [((19 : Int), (0 : Int))]).length : Nat) : Int) = c.length + (A c.length).length + 1 := by simp only [List.length_append, List.length_cons, List.length_nil]; omega
 simp only [whC, List.append_assoc]
 simp only [List.append_assoc] at e
 rw [e]
 have e2 : (((c ++ (A c.length ++ ([((19 : Int), (0 : Int))] ++ (X (c.length + (A c.length).length + 1) ++ [((18 : Int), (c.length : Int))])))).length : Nat) : Int) = c.length + (A c.length).length + 1 + (X (c.length + (A c.length).length + 1)).length + 1 := by simp only [List.length_append, List.length_cons, List.length_nil]; omega
 rw [e2]
theorem ts_while (f f1 : Bool) {x : Fo} {X : Int -> Cd} {Lx : Nat} (ha : TrOK vs a.node A La) (hx : TrB vs (nd 7 0 ⟨#[]⟩ f1 x) X Lx) :
   TrOK vs (nd 4 0 ⟨#[]⟩ f (a.fo (.cons 7 0 ⟨#[]⟩ f1 x .nil))) (whC A X) (La + Lx + 2) where
 ln := ln_wh ha.ln hx.ln
 pos := by omega
 one := fun e0 e1 e2 c hc hl => by
   have hpa := ha.pos
   obtain ⟨c1, h1⟩ : ∃ c1, c1 = c ++ A c.length := ⟨_, rfl⟩
   have l1 : c1.length = c.length + La := by rw [h1, List.length_append, ha.ln]
   have n1 : c1 ≠ [] := fun e => by rw [e] at l1; simp only [List.length_nil] at l1; omega
   have z1 : Z base15 (.call 165 [.ptr 0 0, .dat (.agg [.lit (.int .i64 4), .lit (.int .i64 0), .lit (.string ⟨#[]⟩), .sl [.lit (.int .i64 a.kind), .lit (.int .i64 a.num), .lit (.string a.str), a.kids, .lit (.int .i64 7), .lit (.int .i64 0), .lit (.string ⟨#[]⟩), kd f1 x.len x.cells] 2 f]), .int 0] (tst1 vs e0 e1 e2 c)) = _ := kid1 (f := f) (N := 2) (i := 0) (e0 := e0) (e1 := e1) (e2 := e2) ha.toTrB rfl (by omega) c hc (by omega)
   rw [<- h1] at z1
   have z2 := jump1 (vs := vs) (e0 := e0) (e1 := e1) (e2 := e2) c1 (by omega) 19
   obtain ⟨c2, h2⟩ : ∃ c2, c2 = c1 ++ [((19 : Int), (0 : Int))] := ⟨_, rfl⟩
   have l2 : c2.length = c1.length + 1 := by rw [h2]; simp
   rw [<- h2] at z2
   have z3 : Z base15 (.call 165 [.ptr 0 0, .dat (.agg [.lit (.int .i64 4), .lit (.int .i64 0), .lit (.string ⟨#[]⟩), .sl [.lit (.int .i64 a.kind), .lit (.int .i64 a.num), .lit (.string a.str), a.kids, .lit (.int .i64 7), .lit (.int .i64 0), .lit (.string ⟨#[]⟩), kd f1 x.len x.cells] 2 f]), .int 1] (tst1 vs e0 e1 e2 c2)) = _ := kid1 (f := f) (N := 2) (i := 1) (e0 := e0) (e1 := e1) (e2 := e2) hx rfl (by omega) c2 (by rw [h2]; simp) (by omega)
   obtain ⟨c3, h3⟩ : ∃ c3, c3 = c2 ++ X c2.length := ⟨_, rfl⟩
   have l3 : c3.length = c2.length + Lx := by rw [h3, List.length_append, hx.ln]
   rw [<- h3] at z3
   have z4 := emit1 (vs := vs) (e0 := e0) (e1 := e1) (e2 := e2) c3 (by omega) 18 c.length
   obtain ⟨c4, h4⟩ : ∃ c4, c4 = c3 ++ [((18 : Int), (c.length : Int))] := ⟨_, rfl⟩
   have l4 : c4.length = c3.length + 1 := by rw [h4]; simp
   rw [<- h4] at z4
   have f4 : c4 = c1 ++ (19, 0) :: (X c2.length ++ [((18 : Int), (c.length : Int))]) := by rw [h4, h3, h2]; simp
   have z5 := patch_Z (vs := vs) (e0 := e0) (e1 := e1) (e2 := e2) c1 (X c2.length ++ [((18 : Int), (c.length : Int))]) 19 0 (by rw [<- f4]; omega)
   rw [<- f4] at z5
   have f5 : c1 ++ (19, (c4.length : Int)) :: (X c2.length ++ [((18 : Int), (c.length : Int))]) = c ++ whC A X c.length := by
     have := wh_eq A X c
     rw [<- h1, <- h2, <- h3, <- h4] at this
     exact this
   have l5 : c4.length = (c ++ whC A X c.length).length := by rw [<- f5, f4]; simp
   rw [f5] at z5
   generalize c ++ whC A X c.length = c5 at *
   rw [l5] at z5
   have zl : Z base15 (.call 191 [.ptr 0 0, .dat (.agg [.lit (.int .i64 4), .lit (.int .i64 0), .lit (.string ⟨#[]⟩), .sl [.lit (.int .i64 a.kind), .lit (.int .i64 a.num), .lit (.string a.str), a.kids, .lit (.int .i64 7), .lit (.int .i64 0), .lit (.string ⟨#[]⟩), kd f1 x.len x.cells] 2 f])] (tst1 vs e0 e1 e2 c)) = some (.ret (.tup []) (tst1 vs e0 e1 e2 c5)) := by
     refine Z_call (pf := F191) rfl rfl ?_
     simp [F191, len_ow2, z1, z2, z3, z4, z5, l5, V.isNilIf, List.range_succ]
   have zs : Z base15 (.call 169 [.ptr 0 0, .dat (.agg [.lit (.int .i64 4), .lit (.int .i64 0), .lit (.string ⟨#[]⟩), .sl [.lit (.int .i64 a.kind), .lit (.int .i64 a.num), .lit (.string a.str), a.kids, .lit (.int .i64 7), .lit (.int .i64 0), .lit (.string ⟨#[]⟩), kd f1 x.len x.cells] 2 f])] (tst1 vs e0 e1 e2 c)) = some (.ret (.tup []) (tst1 vs e0 e1 e2 c5)) := by
     refine Z_call (pf := F169) rfl rfl ?_
     simp [F169, zl, List.range_succ]
   refine Z_call (pf := F147) rfl rfl ?_
   simp [F147, zs, List.range_succ]
 zero := fun e0 e1 e2 hl => by
   obtain ⟨c, hcn⟩ : ∃ c : Cd, c = [] := ⟨_, rfl⟩
   have lc : c.length = 0 := by rw [hcn]; rfl
   have hpa := ha.pos
   obtain ⟨c1, h1⟩ : ∃ c1, c1 = c ++ A c.length := ⟨_, rfl⟩
   have l1 : c1.length = c.length + La := by rw [h1, List.length_append, ha.ln]
   have n1 : c1 ≠ [] := fun e => by rw [e] at l1; simp only [List.length_nil] at l1; omega
   have z1 : Z base15 (.call 165 [.ptr 0 0, .dat (.agg [.lit (.int .i64 4), .lit (.int .i64 0), .lit (.string ⟨#[]⟩), .sl [.lit (.int .i64 a.kind), .lit (.int .i64 a.num), .lit (.string a.str), a.kids, .lit (.int .i64 7), .lit (.int .i64 0), .lit (.string ⟨#[]⟩), kd f1 x.len x.cells] 2 f]), .int 0] (tst0 vs e0 e1 e2)) = _ := kid0 (f := f) (N := 2) (i := 0) (e0 := e0) (e1 := e1) (e2 := e2) ha rfl (by omega) (by omega)
   rw [show A 0 = c1 by rw [h1, hcn]; rfl] at z1
   have z2 := jump1 (vs := vs) (e0 := e0) (e1 := e1) (e2 := e2) c1 (by omega) 19
   obtain ⟨c2, h2⟩ : ∃ c2, c2 = c1 ++ [((19 : Int), (0 : Int))] := ⟨_, rfl⟩
   have l2 : c2.length = c1.length + 1 := by rw [h2]; simp
   rw [<- h2] at z2
   have z3 : Z base15 (.call 165 [.ptr 0 0, .dat (.agg [.lit (.int .i64 4), .lit (.int .i64 0), .lit (.string ⟨#[]⟩), .sl [.lit (.int .i64 a.kind), .lit (.int .i64 a.num), .lit (.string a.str), a.kids, .lit (.int .i64 7), .lit (.int .i64 0), .lit (.string ⟨#[]⟩), kd f1 x.len x.cells] 2 f]), .int 1] (tst1 vs e0 e1 e2 c2)) = _ := kid1 (f := f) (N := 2) (i := 1) (e0 := e0) (e1 := e1) (e2 := e2) hx rfl (by omega) c2 (by rw [h2]; simp) (by omega)
   obtain ⟨c3, h3⟩ : ∃ c3, c3 = c2 ++ X c2.length := ⟨_, rfl⟩
   have l3 : c3.length = c2.length + Lx := by rw [h3, List.length_append, hx.ln]
   rw [<- h3] at z3
   have z4 := emit1 (vs := vs) (e0 := e0) (e1 := e1) (e2 := e2) c3 (by omega) 18 c.length
   obtain ⟨c4, h4⟩ : ∃ c4, c4 = c3 ++ [((18 : Int), (c.length : Int))] := ⟨_, rfl⟩
   have l4 : c4.length = c3.length + 1 := by rw [h4]; simp
   rw [<- h4] at z4
   have f4 : c4 = c1 ++ (19, 0) :: (X c2.length ++ [((18 : Int), (c.length : Int))]) := by rw [h4, h3, h2]; simp
   have z5 := patch_Z (vs := vs) (e0 := e0) (e1 := e1) (e2 := e2) c1 (X c2.length ++ [((18 : Int), (c.length : Int))]) 19 0 (by rw [<- f4]; omega)
   rw [<- f4] at z5
   have f5 : c1 ++ (19, (c4.length : Int)) :: (X c2.length ++ [((18 : Int), (c.length : Int))]) = c ++ whC A X c.length := by
     have := wh_eq A X c
     rw [<- h1, <- h2, <- h3, <- h4] at this
     exact this
   have l5 : c4.length = (c ++ whC A X c.length).length := by rw [<- f5, f4]; simp
   rw [f5] at z5
   rw [show whC A X 0 = c ++ whC A X c.length by rw [hcn]; rfl]
   rw [lc, show ((0 : Nat) : Int) = 0 from rfl] at z4
   generalize c ++ whC A X c.length = c5 at *
   rw [l5] at z5
   have zl : Z base15 (.call 191 [.ptr 0 0, .dat (.agg [.lit (.int .i64 4), .lit (.int .i64 0), .lit (.string ⟨#[]⟩), .sl [.lit (.int .i64 a.kind), .lit (.int .i64 a.num), .lit (.string a.str), a.kids, .lit (.int .i64 7), .lit (.int .i64 0), .lit (.string ⟨#[]⟩), kd f1 x.len x.cells] 2 f])] (tst0 vs e0 e1 e2)) = some (.ret (.tup []) (tst2 vs e0 e1 e2 c5)) := by
     refine Z_call (pf := F191) rfl rfl ?_
     simp [F191, len_ow2, z1, z2, z3, z4, z5, len_nil, l5, V.isNilIf, List.range_succ]
   have zs : Z base15 (.call 169 [.ptr 0 0, .dat (.agg [.lit (.int .i64 4), .lit (.int .i64 0), .lit (.string ⟨#[]⟩), .sl [.lit (.int .i64 a.kind), .lit (.int .i64 a.num), .lit (.string a.str), a.kids, .lit (.int .i64 7), .lit (.int .i64 0), .lit (.string ⟨#[]⟩), kd f1 x.len x.cells] 2 f])] (tst0 vs e0 e1 e2)) = some (.ret (.tup []) (tst2 vs e0 e1 e2 c5)) := by
     refine Z_call (pf := F169) rfl rfl ?_
     simp [F169, zl, List.range_succ]
   refine Z_call (pf := F147) rfl rfl ?_
   simp [F147, zs, List.range_succ]
end
end Go.Pm
end SDh
section SDi
namespace Go.Pm
open F Gr
set_option maxHeartbeats 2000000
attribute [local simp] locs_mapM ren_mapM dkey rkey
inductive RowT (vs : List ByteArray) : List D -> List (Int -> Cd) -> Nat -> Prop
 | nil : RowT vs [] [] 0
 | cons {a b c d : D} {C : Int -> Cd} {L : Nat} {r : List D} {Cs : List (Int -> Cd)} {M : Nat} (h : TrOK vs (.dat (.agg [a, b, c, d])) C L) (hr : RowT vs r Cs M) : RowT vs (a :: b :: c :: d :: r) (C :: Cs) (L + M)
theorem ln_seqT {vs : List ByteArray} {r : List D} {Cs : List (Int -> Cd)} {M : Nat} (h : RowT vs r Cs M) : Ln (seqC Cs) M := by
 induction h with
 | nil => exact fun _ => rfl
 | cons h _ ih => exact fun p => by simp [seqC, h.ln p, ih _]
section
variable {vs : List ByteArray} {e0 e1 e2 : Int} {f : Bool} {N : Nat} {cs : List D}
abbrev bl1 (vs : List ByteArray) (e0 e1 e2 : Int) (f : Bool) (N : Nat) (cs : List D) (c : Cd) : S := [cob e0 e1 e2 1 c.length 2, .vec (icV c), mpo vs, .cells [.ptr 0 0], .cells [.int 7, .int 0, .str ⟨#[]⟩, .dat (kd f N cs)]]
abbrev bl0 (vs : List ByteArray) (e0 e1 e2 : Int) (f : Bool) (N : Nat) (cs : List D) : S := [cnil e0 e1 e2 1, mpo vs, .cells [.ptr 0 0], .cells [.int 7, .int 0, .str ⟨#[]⟩, .dat (kd f N cs)]]
abbrev bl2 (vs : List ByteArray) (e0 e1 e2 : Int) (f : Bool) (N : Nat) (cs : List D) (c : Cd) : S := [cob e0 e1 e2 4 c.length 1, mpo vs, .cells [.ptr 0 0], .cells [.int 7, .int 0, .str ⟨#[]⟩, .dat (kd f N cs)], .vec (icV c)]
abbrev blF (p q N : Nat) (i : Nat) : Fr := [(2, .ptr p 0), (3, .ptr q 0), (64, .int N), (65, .int i)]
theorem bl1_end (c : Cd) : Z base15 (.loop 3 F169l0 (blF 3 4 N N) (bl1 vs e0 e1 e2 f N cs c)) = some (.out (.exit 1) (blF 3 4 N N ++ [(66, .bool false)]) (bl1 vs e0 e1 e2 f N cs c)) := by
 rw [Z_loop_eq]
 simp [loopStep, run_F169l0, List.range_succ]
theorem bl0_end : Z base15 (.loop 2 F169l0 (blF 2 3 N N) (bl0 vs e0 e1 e2 f N cs)) = some (.out (.exit 1) (blF 2 3 N N ++ [(66, .bool false)]) (bl0 vs e0 e1 e2 f N cs)) := by
 rw [Z_loop_eq]
 simp [loopStep, run_F169l0, List.range_succ]
theorem bl2_end (c : Cd) : Z base15 (.loop 2 F169l0 (blF 2 3 N N) (bl2 vs e0 e1 e2 f N cs c)) = some (.out (.exit 1) (blF 2 3 N N ++ [(66, .bool false)]) (bl2 vs e0 e1 e2 f N cs c)) := by
 rw [Z_loop_eq]
 simp [loopStep, run_F169l0, List.range_succ]
variable {i : Nat} {a b c1 d : D} {r : List D} {C : Int -> Cd} {L : Nat}
theorem bl1_step (hi : i < N) (hN : N < 2^40) (hd : cs.drop (i * 4) = a :: b :: c1 :: d :: r) (h : TrOK vs (.dat (.agg [a, b, c1, d])) C L) (c : Cd) (hc : c ≠ []) (hl : c.length + 4 * L < 2^30) :
   Z base15 (.loop 3 F169l0 (blF 3 4 N i) (bl1 vs e0 e1 e2 f N cs c)) = Z base15 (.loop 3 F169l0 (blF 3 4 N (i + 1)) (bl1 vs e0 e1 e2 f N cs (c ++ C c.length))) := by
 have w1 := wrap64 ((i : Int) + 1) (by omega)
 have hi' : (i : Int) < N := by omega
 have z := kid1 (e0 := e0) (e1 := e1) (e2 := e2) (k := 7) (n := 0) (s := ⟨#[]⟩) (f := f) h.toTrB hd hi c hc hl
 generalize c ++ C c.length = c2 at *
 conv => lhs; rw [Z_loop_eq]
 simp [loopStep, run_F169l0, hi', z, w1, bl0, bl1, bl2, blF, List.range_succ]
theorem bl0_step (hi : i < N) (hN : N < 2^40) (hd : cs.drop (i * 4) = a :: b :: c1 :: d :: r) (h : TrOK vs (.dat (.agg [a, b, c1, d])) C L) (hl : 4 * L < 2^30) :
   Z base15 (.loop 2 F169l0 (blF 2 3 N i) (bl0 vs e0 e1 e2 f N cs)) = Z base15 (.loop 2 F169l0 (blF 2 3 N (i + 1)) (bl2 vs e0 e1 e2 f N cs (C 0))) := by
 have w1 := wrap64 ((i : Int) + 1) (by omega)
 have hi' : (i : Int) < N := by omega
 have z := kid0 (e0 := e0) (e1 := e1) (e2 := e2) (k := 7) (n := 0) (s := ⟨#[]⟩) (f := f) h hd hi hl
 generalize C 0 = c2 at *
 conv => lhs; rw [Z_loop_eq]
 simp [loopStep, run_F169l0, hi', z, w1, bl0, bl1, bl2, blF, List.range_succ]
theorem bl2_step (hi : i < N) (hN : N < 2^40) (hd : cs.drop (i * 4) = a :: b :: c1 :: d :: r) (h : TrOK vs (.dat (.agg [a, b, c1, d])) C L) (c : Cd) (hc : c ≠ []) (hl : c.length + 4 * L < 2^30) :
   Z base15 (.loop 2 F169l0 (blF 2 3 N i) (bl2 vs e0 e1 e2 f N cs c)) = Z base15 (.loop 2 F169l0 (blF 2 3 N (i + 1)) (bl2 vs e0 e1 e2 f N cs (c ++ C c.length))) := by
 have w1 := wrap64 ((i : Int) + 1) (by omega)
 have hi' : (i : Int) < N := by omega
 have z := kid1 (e0 := e0) (e1 := e1) (e2 := e2) (k := 7) (n := 0) (s := ⟨#[]⟩) (f := f) h.toTrB hd hi c hc hl
 generalize c ++ C c.length = c2 at *
 conv => lhs; rw [Z_loop_eq]
 simp [loopStep, run_F169l0, hi', z, w1, bl0, bl1, bl2, blF, List.range_succ]
theorem seqC_cons (C : Int -> Cd) (Cs : List (Int -> Cd)) (c : Cd) : (c ++ C c.length) ++ seqC Cs (c ++ C c.length).length = c ++ seqC (C :: Cs) c.length := by
 simp only [seqC, List.append_assoc, List.length_append]
 rw [show ((c.length + (C c.length).length : Nat) : Int) = c.length + (C c.length).length by omega]
theorem bl1_loop (hN : N < 2^40) : ∀ {r : List D} {Cs : List (Int -> Cd)} {M : Nat}, RowT vs r Cs M -> ∀ (i : Nat), cs.drop (i * 4) = r -> i + Cs.length = N -> ∀ (c : Cd), c ≠ [] -> c.length + 4 * M < 2^30 ->
   Z base15 (.loop 3 F169l0 (blF 3 4 N i) (bl1 vs e0 e1 e2 f N cs c)) = some (.out (.exit 1) (blF 3 4 N N ++ [(66, .bool false)]) (bl1 vs e0 e1 e2 f N cs (c ++ seqC Cs c.length)))
 | _, _, _, .nil, i, hd, hn, c, hc, hl => by
   simp only [List.length_nil, Nat.add_zero] at hn
   subst hn
   rw [show c ++ seqC [] c.length = c by simp [seqC]]
   exact bl1_end c
 | _, _, _, .cons (C := C) (L := L) (Cs := Cs) (M := M) h1 hr, i, hd, hn, c, hc, hl => by
   simp only [List.length_cons] at hn
   have hlen : (c ++ C c.length).length = c.length + L := by rw [List.length_append, h1.ln]
   rw [bl1_step (by omega) hN hd h1 c hc (by omega), bl1_loop hN hr (i + 1) (drop_next hd) (by omega) _ (app_ne hc) (by omega), seqC_cons]
theorem bl2_loop (hN : N < 2^40) : ∀ {r : List D} {Cs : List (Int -> Cd)} {M : Nat}, RowT vs r Cs M -> ∀ (i : Nat), cs.drop (i * 4) = r -> i + Cs.length = N -> ∀ (c : Cd), c ≠ [] -> c.length + 4 * M < 2^30 ->
   Z base15 (.loop 2 F169l0 (blF 2 3 N i) (bl2 vs e0 e1 e2 f N cs c)) = some (.out (.exit 1) (blF 2 3 N N ++ [(66, .bool false)]) (bl2 vs e0 e1 e2 f N cs (c ++ seqC Cs c.length)))
 | _, _, _, .nil, i, hd, hn, c, hc, hl => by
   simp only [List.length_nil, Nat.add_zero] at hn
   subst hn
   rw [show c ++ seqC [] c.length = c by simp [seqC]]
   exact bl2_end c
 | _, _, _, .cons (C := C) (L := L) (Cs := Cs) (M := M) h1 hr, i, hd, hn, c, hc, hl => by
   simp only [List.length_cons] at hn
   have hlen : (c ++ C c.length).length = c.length + L := by rw [List.length_append, h1.ln]
   rw [bl2_step (by omega) hN hd h1 c hc (by omega), bl2_loop hN hr (i + 1) (drop_next hd) (by omega) _ (app_ne hc) (by omega), seqC_cons]
end
section
variable {vs : List ByteArray} {cs : List D} {Cs : List (Int -> Cd)} {M N : Nat}
theorem blk_B (h : RowT vs cs Cs M) (hN : Cs.length = N) (hN2 : N < 2^40) (f : Bool) : TrB vs (.dat (.agg [.lit (.int .i64 7), .lit (.int .i64 0), .lit (.string ⟨#[]⟩), kd f N cs])) (seqC Cs) M where
 ln := ln_seqT h
 one := fun e0 e1 e2 c hc hl => by
   have z := bl1_loop (e0 := e0) (e1 := e1) (e2 := e2) (f := f) hN2 h 0 rfl (by omega) c hc hl
   rw [show blF 3 4 N 0 = [(2, .ptr 3 0), (3, .ptr 4 0), (64, .int N), (65, .int 0)] from rfl] at z
   generalize c ++ seqC Cs c.length = c2 at *
   have zs : Z base15 (.call 169 [.ptr 0 0, .dat (.agg [.lit (.int .i64 7), .lit (.int .i64 0), .lit (.string ⟨#[]⟩), kd f N cs])] (tst1 vs e0 e1 e2 c)) = some (.ret (.tup []) (tst1 vs e0 e1 e2 c2)) := by
     refine Z_call (pf := F169) rfl rfl ?_
     simp [F169, z, List.range_succ]
   refine Z_call (pf := F147) rfl rfl ?_
   simp [F147, zs, List.range_succ]
theorem blk_0 (h : RowT vs cs Cs M) (hN : Cs.length = N) (hN2 : N < 2^40) (f : Bool) (e0 e1 e2 : Int) (hl : 4 * M < 2^30) : Z base15 (.call 147 [.ptr 0 0, .dat (.agg [.lit (.int .i64 7), .lit (.int .i64 0), .lit (.string ⟨#[]⟩), kd f N cs])] (tst0 vs e0 e1 e2)) =
   some (.ret (.tup []) (if seqC Cs 0 = [] then tst0 vs e0 e1 e2 else tst2 vs e0 e1 e2 (seqC Cs 0))) := by
 cases h with
 | nil =>
   simp only [List.length_nil] at hN
   subst hN
   rw [if_pos (show seqC ([] : List (Int -> Cd)) 0 = [] from rfl)]
   have z := bl0_end (vs := vs) (e0 := e0) (e1 := e1) (e2 := e2) (f := f) (N := 0) (cs := [])
   rw [show blF 2 3 0 0 = [(2, .ptr 2 0), (3, .ptr 3 0), (64, .int 0), (65, .int 0)] from rfl] at z
   have zs : Z base15 (.call 169 [.ptr 0 0, .dat (.agg [.lit (.int .i64 7), .lit (.int .i64 0), .lit (.string ⟨#[]⟩), kd f 0 []])] (tst0 vs e0 e1 e2)) = some (.ret (.tup []) (tst0 vs e0 e1 e2)) := by
     simp only [bl0, kd_0] at z
     refine Z_call (pf := F169) rfl rfl ?_
     simp [F169, z, len_nil, List.range_succ]
   refine Z_call (pf := F147) rfl rfl ?_
   simp only [kd_0] at zs
   simp [F147, zs, List.range_succ]
 | @cons a b c d C L r Cs M h1 hr =>
   simp only [List.length_cons] at hN
   have hn1 : C 0 ≠ [] := fun e => by have := h1.ln 0; have := h1.pos; rw [e] at *; simp_all
   have hlen : (C 0).length = L := h1.ln 0
   have z1 := bl0_step (N := N) (e0 := e0) (e1 := e1) (e2 := e2) (f := f) (i := 0) (r := r) (cs := a :: b :: c :: d :: r) (by omega) hN2 rfl h1 (by omega)
   have z2 := bl2_loop (N := N) (e0 := e0) (e1 := e1) (e2 := e2) (f := f) (cs := a :: b :: c :: d :: r) hN2 hr 1 rfl (by omega) (C 0) hn1 (by omega)
   have z := z1.trans z2
   have e : C 0 ++ seqC Cs (C 0).length = seqC (C :: Cs) 0 := by simp [seqC]
   have hne : seqC (C :: Cs) 0 ≠ [] := by rw [<- e]; simp [hn1]
   rw [e] at z
   rw [if_neg hne]
   rw [show blF 2 3 N 0 = [(2, .ptr 2 0), (3, .ptr 3 0), (64, .int N), (65, .int 0)] from rfl] at z
   generalize seqC (C :: Cs) 0 = c2 at *
   have zs : Z base15 (.call 169 [.ptr 0 0, .dat (.agg [.lit (.int .i64 7), .lit (.int .i64 0), .lit (.string ⟨#[]⟩), kd f N (a :: b :: c :: d :: r)])] (tst0 vs e0 e1 e2)) = some (.ret (.tup []) (tst2 vs e0 e1 e2 c2)) := by
     refine Z_call (pf := F169) rfl rfl ?_
     simp [F169, z, List.range_succ]
   refine Z_call (pf := F147) rfl rfl ?_
   simp [F147, zs, List.range_succ]
theorem row_T (b : Ss) (hf : b.fine) (hi : b.inV vs) (hb : b.fo.size < 2^30) : ∃ M, RowT vs b.fo.cells (partS vs b) M /\ (partS vs b).length = b.fo.len := by
 fun_induction Ss.fine b with
 | case1 => exact ⟨0, .nil, rfl⟩
 | case2 _ s e r ih =>
   simp only [Ss.fo, fo_size_cons] at hb
   obtain ⟨M, h, hl⟩ := ih hf.2 hi.2 (by omega)
   obtain ⟨L, k⟩ := tr_E e hf.1.2.1 hi.1.2
   exact ⟨_, .cons (ts_assign _ hi.1.1 k) h, by simp [partS, Ss.fo, hl]⟩
 | case3 _ s a b r ih =>
   simp only [Ss.fo, fo_size_cons] at hb
   obtain ⟨M, h, hl⟩ := ih hf.2 hi.2 (by omega)
   obtain ⟨L, k⟩ := tr_E a hf.1.2.1 hi.1.1
   obtain ⟨L', k'⟩ := tr_E b hf.1.2.2.2.1 hi.1.2
   exact ⟨_, .cons (ts_store _ (List.mem_append_left _ hf.1.1) k k') h, by simp [partS, Ss.fo, hl]⟩
 | case4 _ a b r ih =>
   simp only [Ss.fo, fo_size_cons] at hb
   obtain ⟨M, h, hl⟩ := ih hf.2 hi.2 (by omega)
   obtain ⟨L, k⟩ := tr_E a hf.1.1 hi.1.1
   obtain ⟨L', k'⟩ := tr_E b hf.1.2.2.1 hi.1.2
   exact ⟨_, .cons (ts_effect _ k k') h, by simp [partS, Ss.fo, hl]⟩
 | case5 r ih =>
   simp only [Ss.fo, fo_size_cons] at hb
   obtain ⟨M, h, hl⟩ := ih hf hi (by omega)
   exact ⟨_, .cons (ts_stop false) h, by simp [partS, Ss.fo, hl]⟩
 | case6 _ c _ x _ y r ih1 ih2 ih3 =>
   simp only [Ss.fo, fo_size_cons, fo_size] at hb
   obtain ⟨Mx, hx, hlx⟩ := ih1 hf.2.1 hi.2.1.1 (by omega)
   obtain ⟨My, hy, hly⟩ := ih2 hf.2.2.1 hi.2.1.2.1 (by omega)
   obtain ⟨M, h, hl⟩ := ih3 hf.2.2.2 hi.2.2 (by omega)
   obtain ⟨L, k⟩ := tr_E c hf.1.1 hi.1
   have sx := fo_len_size x.fo
   have sy := fo_len_size y.fo
   have bx := blk_B hx hlx (by omega)
   have by_ := blk_B hy hly (by omega)
   rw [show seqC (partS vs x) = codeS vs x from funext (seq_part x)] at bx
   rw [show seqC (partS vs y) = codeS vs y from funext (seq_part y)] at by_
   exact ⟨_, .cons (ts_if _ _ _ k (bx _) (by_ _)) h, by simp [partS, Ss.fo, hl]⟩
 | case7 _ c _ x r ih1 ih2 =>
   simp only [Ss.fo, fo_size_cons, fo_size] at hb
   obtain ⟨Mx, hx, hlx⟩ := ih1 hf.2.1 hi.2.1.1 (by omega)
   obtain ⟨M, h, hl⟩ := ih2 hf.2.2 hi.2.2 (by omega)
   obtain ⟨L, k⟩ := tr_E c hf.1.1 hi.1
   have sx := fo_len_size x.fo
   have bx := blk_B hx hlx (by omega)
   rw [show seqC (partS vs x) = codeS vs x from funext (seq_part x)] at bx
   exact ⟨_, .cons (ts_while _ _ k (bx _)) h, by simp [partS, Ss.fo, hl]⟩
 | case8 => exact hf.elim
end
end Go.Pm
end SDi
