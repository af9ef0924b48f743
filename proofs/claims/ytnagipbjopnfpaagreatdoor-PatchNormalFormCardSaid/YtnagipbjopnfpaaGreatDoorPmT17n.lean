/- The given program, held against the abstract one: function by function, by the kernel. -/
import Derived.Test.YtnagipbjopnfpaaGreatDoorRows
import Derived.Test.YtnagipbjopnfpaaGreatDoorPmR1
import Derived.Test.YtnagipbjopnfpaaGreatDoorPmTi
import Derived.Test.YtnagipbjopnfpaaGreatDoorPmZh
import Derived.KernelRfl
set_option linter.unusedSimpArgs false
set_option linter.unusedVariables false
section
namespace Go.Proofs.YtnagipbjopnfpaaGreatDoor.T
open Go.Pm Go.Pm.F
def prL : List (Nat × Nat) := [(3,339),(4,227),(5,317),(6,321),(7,228),(8,314),(9,231),(10,323),(11,346),(12,343),(13,236),(14,123),(15,322),(16,318),(17,58),(18,320),(19,239),(20,240),(21,241),(22,242),(23,149),(24,17),(25,243),(26,244),(27,245),(28,329),(29,330),(30,331),(31,353),(32,109),(33,247),(34,152),(35,248),(36,23),(37,136),(38,137),(39,324),(40,325),(41,326),(42,327),(43,328),(44,131),(45,249),(46,250),(47,251),(48,252),(49,253),(50,254),(51,255),(52,256),(53,170),(54,171),(55,257),(56,258),(57,259),(58,260),(59,110),(60,111),(61,262),(62,263),(63,162),(64,12),(65,15),(66,147),(67,148),(68,139),(69,140),(70,264),(71,265),(72,266),(73,267),(74,268),(75,269),(76,270),(77,271),(78,192),(79,193),(80,194),(81,195),(82,196),(83,272),(84,273),(85,274),(86,112),(87,234),(88,176),(89,177),(90,178),(91,179),(92,26),(93,30),(94,32),(95,165),(96,134),(97,166),(98,167),(99,168),(100,169),(101,164),(102,275),(103,276),(104,277),(105,278),(106,279),(107,280),(108,281),(109,198),(111,282),(112,283),(113,113),(114,246),(115,35),(116,27),(117,37),(118,38),(119,39),(120,180),(121,181),(122,182),(123,183),(124,184),(125,185),(126,186),(127,187),(128,188),(129,189),(130,190),(131,191),(133,284),(134,285),(135,286),(136,287),(137,288),(138,261),(139,20),(140,200),(141,201),(142,289),(143,290),(144,291),(145,204),(146,292),(147,293),(148,294),(149,295),(150,296),(151,297),(152,298),(153,299),(154,300),(157,303),(158,304),(161,307),(162,308),(163,309)]
def idsT : TypeId → Option Nat := fun t => match t with
  | 25 => some 1
  | 9 => some 2
  | 5 => some 3
  | 85 => some 4
  | _ => none
def idsG : Nat → Option (List D) := fun g => match g with
  | 0 => some G_arenanet_compile_effects
  | 2 => some G_internal_strconv_uint64pow10
  | _ => none
def ids : Ids := ⟨toL prL, idsT, idsG, false, false⟩
def fidT : Nat → TypeId := fun k => match k with
  | 1 => 25
  | 2 => 9
  | 3 => 5
  | 4 => 85
  | _ => 0

def fid : Fid := ⟨ofL prL, fun N c pc => 2 * N ≤ dkey ∧ ∃ K ow d, comp Tryz.prog (ids.with ow d) N K c = some pc, fidT, fun g t nm => ∃ f, methT Tryz.prog t nm = some f ∧ ids.fn f = some g, ids.gl⟩
theorem hid : Ties Tryz.prog ids fid := by
  refine ⟨fun f g h => prs (by kernel_rfl) h, fun t u h => ?_, fun _ _ _ => Iff.rfl, fun _ _ h => h⟩
  · simp only [ids, idsT] at h
    first | cases h | (split at h <;> first | (cases h; rfl) | cases h)
theorem hcr : Codes Tryz.prog ids fid := fun _ _ _ => Iff.rfl
theorem mixed : Tryz.prog.follows .mixedOrders = true := by kernel_rfl
theorem tied : Tied Tryz.prog ids fid prog17p := fun f pf h => by
  unfold prog17p at h
  split at h
  · cases h; exact tq false Tryz.func64 (by kernel_rfl)
  · cases h; exact tq false Tryz.func65 (by kernel_rfl)
  · cases h; exact tq false Tryz.func24 (by kernel_rfl)
  · cases h; exact tq false Tryz.func139 (by kernel_rfl)
  · cases h; exact tq false Tryz.func36 (by kernel_rfl)
  · cases h; exact tq false Tryz.func92 (by kernel_rfl)
  · cases h; exact tq false Tryz.func116 (by kernel_rfl)
  · cases h; exact tq false Tryz.func93 (by kernel_rfl)
  · cases h; exact tq false Tryz.func94 (by kernel_rfl)
  · cases h; exact tq false Tryz.func115 (by kernel_rfl)
  · cases h; exact tq false Tryz.func117 (by kernel_rfl)
  · cases h; exact tq false Tryz.func118 (by kernel_rfl)
  · cases h; exact tq false Tryz.func119 (by kernel_rfl)
  · cases h; exact tq false Tryz.func17 (by kernel_rfl)
  · cases h; exact tq false Tryz.func32 (by kernel_rfl)
  · cases h; exact tq false Tryz.func59 (by kernel_rfl)
  · cases h; exact tq false Tryz.func60 (by kernel_rfl)
  · cases h; exact tq false Tryz.func86 (by kernel_rfl)
  · cases h; exact tq false Tryz.func113 (by kernel_rfl)
  · cases h; exact tq false Tryz.func14 (by kernel_rfl)
  · cases h; exact tq false Tryz.func44 (by kernel_rfl)
  · cases h; exact tq false Tryz.func96 (by kernel_rfl)
  · cases h; exact tq false Tryz.func37 (by kernel_rfl)
  · cases h; exact tq false Tryz.func38 (by kernel_rfl)
  · cases h; exact tq true Tryz.func68 (by kernel_rfl)
  · cases h; exact tq false Tryz.func69 (by kernel_rfl)
  · cases h; exact tq false Tryz.func66 (by kernel_rfl)
  · cases h; exact tq true Tryz.func67 (by kernel_rfl)
  · cases h; exact tq false Tryz.func23 (by kernel_rfl)
  · cases h; exact tq false Tryz.func34 (by kernel_rfl)
  · cases h; exact tq false Tryz.func63 (by kernel_rfl)
  · cases h; exact tq false Tryz.func101 (by kernel_rfl)
  · cases h; exact tq false Tryz.func95 (by kernel_rfl)
  · cases h; exact tq false Tryz.func97 (by kernel_rfl)
  · cases h; exact tq false Tryz.func98 (by kernel_rfl)
  · cases h; exact tq false Tryz.func99 (by kernel_rfl)
  · cases h; exact tq false Tryz.func100 (by kernel_rfl)
  · cases h; exact tq false Tryz.func53 (by kernel_rfl)
  · cases h; exact tq false Tryz.func54 (by kernel_rfl)
  · cases h; exact tq false Tryz.func88 (by kernel_rfl)
  · cases h; exact tq false Tryz.func89 (by kernel_rfl)
  · cases h; exact tq false Tryz.func90 (by kernel_rfl)
  · cases h; exact tq false Tryz.func91 (by kernel_rfl)
  · cases h; exact tq false Tryz.func120 (by kernel_rfl)
  · cases h; exact tq false Tryz.func121 (by kernel_rfl)
  · cases h; exact tq false Tryz.func122 (by kernel_rfl)
  · cases h; exact tq false Tryz.func123 (by kernel_rfl)
  · cases h; exact tq false Tryz.func124 (by kernel_rfl)
  · cases h; exact tq false Tryz.func125 (by kernel_rfl)
  · cases h; exact tq false Tryz.func126 (by kernel_rfl)
  · cases h; exact tq false Tryz.func127 (by kernel_rfl)
  · cases h; exact tq false Tryz.func128 (by kernel_rfl)
  · cases h; exact tq false Tryz.func129 (by kernel_rfl)
  · cases h; exact tq false Tryz.func130 (by kernel_rfl)
  · cases h; exact tq false Tryz.func131 (by kernel_rfl)
  · cases h; exact tq false Tryz.func78 (by kernel_rfl)
  · cases h; exact tq false Tryz.func79 (by kernel_rfl)
  · cases h; exact tq false Tryz.func80 (by kernel_rfl)
  · cases h; exact tq false Tryz.func81 (by kernel_rfl)
  · cases h; exact tq false Tryz.func82 (by kernel_rfl)
  · cases h; exact tq false Tryz.func109 (by kernel_rfl)
  · cases h; exact tq false Tryz.func140 (by kernel_rfl)
  · cases h; exact tq false Tryz.func141 (by kernel_rfl)
  · cases h; exact tq true Tryz.func145 (by kernel_rfl)
  · cases h; exact tq false Tryz.func4 (by kernel_rfl)
  · cases h; exact tq false Tryz.func7 (by kernel_rfl)
  · cases h; exact tq true Tryz.func9 (by kernel_rfl)
  · cases h; exact tq false Tryz.func87 (by kernel_rfl)
  · cases h; exact tq false Tryz.func13 (by kernel_rfl)
  · cases h; exact tq false Tryz.func19 (by kernel_rfl)
  · cases h; exact tq false Tryz.func20 (by kernel_rfl)
  · cases h; exact tq false Tryz.func21 (by kernel_rfl)
  · cases h; exact tq false Tryz.func22 (by kernel_rfl)
  · cases h; exact tq false Tryz.func25 (by kernel_rfl)
  · cases h; exact tq false Tryz.func26 (by kernel_rfl)
  · cases h; exact tq true Tryz.func27 (by kernel_rfl)
  · cases h; exact tq false Tryz.func114 (by kernel_rfl)
  · cases h; exact tq false Tryz.func33 (by kernel_rfl)
  · cases h; exact tq false Tryz.func35 (by kernel_rfl)
  · cases h; exact tq false Tryz.func45 (by kernel_rfl)
  · cases h; exact tq false Tryz.func46 (by kernel_rfl)
  · cases h; exact tq false Tryz.func47 (by kernel_rfl)
  · cases h; exact tq false Tryz.func48 (by kernel_rfl)
  · cases h; exact tq false Tryz.func49 (by kernel_rfl)
  · cases h; exact tq false Tryz.func50 (by kernel_rfl)
  · cases h; exact tq false Tryz.func51 (by kernel_rfl)
  · cases h; exact tq false Tryz.func52 (by kernel_rfl)
  · cases h; exact tq false Tryz.func55 (by kernel_rfl)
  · cases h; exact tq true Tryz.func56 (by kernel_rfl)
  · cases h; exact tq true Tryz.func57 (by kernel_rfl)
  · cases h; exact tq false Tryz.func58 (by kernel_rfl)
  · cases h; exact tq false Tryz.func138 (by kernel_rfl)
  · cases h; exact tq false Tryz.func61 (by kernel_rfl)
  · cases h; exact tq false Tryz.func62 (by kernel_rfl)
  · cases h; exact tq false Tryz.func70 (by kernel_rfl)
  · cases h; exact tq false Tryz.func71 (by kernel_rfl)
  · cases h; exact tq false Tryz.func72 (by kernel_rfl)
  · cases h; exact tq false Tryz.func73 (by kernel_rfl)
  · cases h; exact tq false Tryz.func74 (by kernel_rfl)
  · cases h; exact tq false Tryz.func75 (by kernel_rfl)
  · cases h; exact tq false Tryz.func76 (by kernel_rfl)
  · cases h; exact tq false Tryz.func77 (by kernel_rfl)
  · cases h; exact tq false Tryz.func83 (by kernel_rfl)
  · cases h; exact tq false Tryz.func84 (by kernel_rfl)
  · cases h; exact tq false Tryz.func85 (by kernel_rfl)
  · cases h; exact tq false Tryz.func102 (by kernel_rfl)
  · cases h; exact tq false Tryz.func103 (by kernel_rfl)
  · cases h; exact tq false Tryz.func104 (by kernel_rfl)
  · cases h; exact tq false Tryz.func105 (by kernel_rfl)
  · cases h; exact tq false Tryz.func106 (by kernel_rfl)
  · cases h; exact tq false Tryz.func107 (by kernel_rfl)
  · cases h; exact tq false Tryz.func108 (by kernel_rfl)
  · cases h; exact tq false Tryz.func111 (by kernel_rfl)
  · cases h; exact tq false Tryz.func112 (by kernel_rfl)
  · cases h; exact tq false Tryz.func133 (by kernel_rfl)
  · cases h; exact tq false Tryz.func134 (by kernel_rfl)
  · cases h; exact tq false Tryz.func135 (by kernel_rfl)
  · cases h; exact tq false Tryz.func136 (by kernel_rfl)
  · cases h; exact tq false Tryz.func137 (by kernel_rfl)
  · cases h; exact tq false Tryz.func142 (by kernel_rfl)
  · cases h; exact tq false Tryz.func143 (by kernel_rfl)
  · cases h; exact tq false Tryz.func144 (by kernel_rfl)
  · cases h; exact tq false Tryz.func146 (by kernel_rfl)
  · cases h; exact tq false Tryz.func147 (by kernel_rfl)
  · cases h; exact tq false Tryz.func148 (by kernel_rfl)
  · cases h; exact tq false Tryz.func149 (by kernel_rfl)
  · cases h; exact tq false Tryz.func151 (by kernel_rfl)
  · cases h; exact tq false Tryz.func152 (by kernel_rfl)
  · cases h; exact tq false Tryz.func153 (by kernel_rfl)
  · cases h; exact tq false Tryz.func154 (by kernel_rfl)
  · cases h; exact tq false Tryz.func157 (by kernel_rfl)
  · cases h; exact tq false Tryz.func158 (by kernel_rfl)
  · cases h; exact tq false Tryz.func161 (by kernel_rfl)
  · cases h; exact tq false Tryz.func162 (by kernel_rfl)
  · cases h; exact tq false Tryz.func163 (by kernel_rfl)
  · cases h; exact tq false Tryz.func8 (by kernel_rfl)
  · cases h; exact tq false Tryz.func5 (by kernel_rfl)
  · cases h; exact tq false Tryz.func16 (by kernel_rfl)
  · cases h; exact tq false Tryz.func18 (by kernel_rfl)
  · cases h; exact tq false Tryz.func6 (by kernel_rfl)
  · cases h; exact tq false Tryz.func15 (by kernel_rfl)
  · cases h; exact tq false Tryz.func10 (by kernel_rfl)
  · cases h; exact tq false Tryz.func39 (by kernel_rfl)
  · cases h; exact tq false Tryz.func40 (by kernel_rfl)
  · cases h; exact tq false Tryz.func41 (by kernel_rfl)
  · cases h; exact tq false Tryz.func42 (by kernel_rfl)
  · cases h; exact tq false Tryz.func43 (by kernel_rfl)
  · cases h; exact tq false Tryz.func28 (by kernel_rfl)
  · cases h; exact tq false Tryz.func29 (by kernel_rfl)
  · cases h; exact tq false Tryz.func30 (by kernel_rfl)
  · cases h; exact tq false Tryz.func3 (by kernel_rfl)
  · cases h; exact tq true Tryz.func12 (by kernel_rfl)
  · cases h; exact tq false Tryz.func11 (by kernel_rfl)
  · cases h; exact tq true Tryz.func31 (by kernel_rfl)
  · cases h
theorem glb {w : World} (h : laidMet Tryz.prog [("math/bits.deBruijn32tab", Rows.laid_math_bits_deBruijn32tab), ("math/bits.deBruijn64tab", Rows.laid_math_bits_deBruijn64tab), ("internal/strconv.uint64pow10", Rows.laid_internal_strconv_uint64pow10), ("arenanet/compile.effects", Rows.laid_arenanet_compile_effects)] w) : GlbAt fid w := fun g cs hg => by
  simp only [fid, ids, idsG] at hg
  split at hg
  · cases hg
    exact ⟨(effRows15.flatten.map (Value.int .i64)), glb_of_laids (P := Tryz.prog) (n := "arenanet/compile.effects") (d := Rows.laid_arenanet_compile_effects) (L := [("math/bits.deBruijn32tab", Rows.laid_math_bits_deBruijn32tab), ("math/bits.deBruijn64tab", Rows.laid_math_bits_deBruijn64tab), ("internal/strconv.uint64pow10", Rows.laid_internal_strconv_uint64pow10), ("arenanet/compile.effects", Rows.laid_arenanet_compile_effects)]) (g := 0) (t := 168) (vs := (effRows15.flatten.map (Value.int .i64))) (m := 4) (by simp) (by kernel_rfl) (by kernel_rfl) (by kernel_rfl) (by kernel_rfl) h⟩
  · cases hg
    exact ⟨((List.range 20).map fun i => Value.int .u64 (10 ^ i : Nat)), glb_of_laids (P := Tryz.prog) (n := "internal/strconv.uint64pow10") (d := Rows.laid_internal_strconv_uint64pow10) (L := [("math/bits.deBruijn32tab", Rows.laid_math_bits_deBruijn32tab), ("math/bits.deBruijn64tab", Rows.laid_math_bits_deBruijn64tab), ("internal/strconv.uint64pow10", Rows.laid_internal_strconv_uint64pow10), ("arenanet/compile.effects", Rows.laid_arenanet_compile_effects)]) (g := 2) (t := 199) (vs := ((List.range 20).map fun i => Value.int .u64 (10 ^ i : Nat))) (m := 3) (by simp) (by kernel_rfl) (by kernel_rfl) (by kernel_rfl) (by kernel_rfl) h⟩
  · cases hg
end Go.Proofs.YtnagipbjopnfpaaGreatDoor.T
end
