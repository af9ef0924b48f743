/- The given program, held against the abstract one: function by function, by the kernel. -/
import Derived.Test.YtebnoobfoajkbaaGreatDoorRows
import Derived.Test.YtebnoobfoajkbaaGreatDoorPmR
import Derived.Test.YtebnoobfoajkbaaGreatDoorPmHc
import Derived.KernelRfl
set_option linter.unusedSimpArgs false
set_option linter.unusedVariables false
section
namespace Go.Proofs.YtebnoobfoajkbaaGreatDoor.T
open Go.Pm Go.Pm.F
def prL : List (Nat × Nat) := [(3,338),(4,45),(5,351),(6,47),(7,46),(8,17),(9,56),(10,49),(11,57),(12,52),(13,58),(14,59),(15,50),(16,60),(17,228),(18,227),(19,131),(20,55),(21,67),(22,68),(23,1000),(24,69),(25,70),(26,71),(27,72),(28,63),(29,64),(30,73),(31,51),(32,239),(33,240),(34,241),(35,242),(36,236),(37,123),(38,15),(39,147),(40,148),(41,139),(42,140),(43,65),(44,66),(45,78),(46,79),(47,80),(48,81),(49,61),(50,74),(51,75),(52,76),(53,77),(54,62),(55,249),(56,250),(57,251),(58,252),(59,253),(60,254),(61,255),(62,256),(63,247),(64,152),(65,248),(66,23),(67,136),(68,137),(69,32),(70,165),(71,134),(72,166),(73,167),(74,168),(75,169),(76,164),(77,82),(78,83),(79,84),(80,85),(81,86),(82,87),(83,88),(84,89),(85,90),(86,91),(87,92),(88,93),(89,94),(90,95),(91,96),(92,97),(93,98),(94,99),(95,100),(96,101),(97,102),(98,103),(99,104),(100,105),(101,106),(102,107),(103,264),(104,265),(105,266),(106,267),(107,268),(108,269),(109,270),(110,271),(111,262),(112,263),(113,162),(114,38),(115,39),(116,180),(117,181),(118,182),(119,183),(120,184),(121,185),(122,186),(123,187),(124,188),(125,189),(126,190),(127,191),(128,108),(129,109),(130,275),(131,276),(132,277),(133,278),(134,279),(135,280),(136,281),(137,192),(138,193),(139,234),(140,176),(141,177),(142,178),(143,179),(144,200),(145,201),(146,110),(147,111),(149,284),(150,285),(151,286),(152,287),(153,246),(154,204),(155,112),(156,289),(157,290),(158,261),(159,20),(160,113),(161,292),(162,297),(163,303),(164,304),(165,307),(166,308),(167,309),(183,114)]
def idsT : TypeId → Option Nat := fun t => match t with
  | 40 => some 0
  | 73 => some 1
  | 5 => some 3
  | _ => none
def idsG : Nat → Option (List D) := fun g => match g with
  | 0 => some G_arenanet_vm_effects
  | 1 => some G_arenanet_compile_effects
  | _ => none
def ids : Ids := ⟨toL prL, idsT, idsG, false, false⟩
def fidT : Nat → TypeId := fun k => match k with
  | 0 => 40
  | 1 => 73
  | 3 => 5
  | _ => 0

def fid : Fid := ⟨ofL prL, fun N c pc => 2 * N ≤ dkey ∧ ∃ K ow d, comp Tryz.prog (ids.with ow d) N K c = some pc, fidT, fun g t nm => ∃ f, methT Tryz.prog t nm = some f ∧ ids.fn f = some g, ids.gl⟩
theorem hid : Ties Tryz.prog ids fid := by
  refine ⟨fun f g h => prs (by kernel_rfl) h, fun t u h => ?_, fun _ _ _ => Iff.rfl, fun _ _ h => h⟩
  · simp only [ids, idsT] at h
    first | cases h | (split at h <;> first | (cases h; rfl) | cases h)
theorem hcr : Codes Tryz.prog ids fid := fun _ _ _ => Iff.rfl
theorem mixed : Tryz.prog.follows .mixedOrders = true := by kernel_rfl
theorem tied : Tied Tryz.prog ids fid prog17p := fun f pf h => by
  unfold prog17p at h
  split at h
  · cases h; exact tq false Tryz.func38 (by kernel_rfl)
  · cases h; exact tq false Tryz.func8 (by kernel_rfl)
  · cases h; exact tq false Tryz.func159 (by kernel_rfl)
  · cases h; exact tq false Tryz.func66 (by kernel_rfl)
  · cases h; exact tq false Tryz.func69 (by kernel_rfl)
  · cases h; exact tq false Tryz.func114 (by kernel_rfl)
  · cases h; exact tq false Tryz.func115 (by kernel_rfl)
  · cases h; exact tq false Tryz.func4 (by kernel_rfl)
  · cases h; exact tq false Tryz.func7 (by kernel_rfl)
  · cases h; exact tq true Tryz.func6 (by kernel_rfl)
  · cases h; exact tq false Tryz.func10 (by kernel_rfl)
  · cases h; exact tq false Tryz.func15 (by kernel_rfl)
  · cases h; exact tq false Tryz.func31 (by kernel_rfl)
  · cases h; exact tq false Tryz.func12 (by kernel_rfl)
  · cases h; exact tq false Tryz.func20 (by kernel_rfl)
  · cases h; exact tq true Tryz.func9 (by kernel_rfl)
  · cases h; exact tq true Tryz.func11 (by kernel_rfl)
  · cases h; exact tq false Tryz.func13 (by kernel_rfl)
  · cases h; exact tq false Tryz.func14 (by kernel_rfl)
  · cases h; exact tq false Tryz.func16 (by kernel_rfl)
  · cases h; exact tq false Tryz.func49 (by kernel_rfl)
  · cases h; exact tq false Tryz.func54 (by kernel_rfl)
  · cases h; exact tq false Tryz.func28 (by kernel_rfl)
  · cases h; exact tq false Tryz.func29 (by kernel_rfl)
  · cases h; exact tq false Tryz.func43 (by kernel_rfl)
  · cases h; exact tq false Tryz.func44 (by kernel_rfl)
  · cases h; exact tq false Tryz.func21 (by kernel_rfl)
  · cases h; exact tq false Tryz.func22 (by kernel_rfl)
  · cases h; exact tq true Tryz.func24 (by kernel_rfl)
  · cases h; exact tq false Tryz.func25 (by kernel_rfl)
  · cases h; exact tq false Tryz.func26 (by kernel_rfl)
  · cases h; exact tq false Tryz.func27 (by kernel_rfl)
  · cases h; exact tq false Tryz.func30 (by kernel_rfl)
  · cases h; exact tq false Tryz.func50 (by kernel_rfl)
  · cases h; exact tq false Tryz.func51 (by kernel_rfl)
  · cases h; exact tq false Tryz.func52 (by kernel_rfl)
  · cases h; exact tq false Tryz.func53 (by kernel_rfl)
  · cases h; exact tq false Tryz.func45 (by kernel_rfl)
  · cases h; exact tq false Tryz.func46 (by kernel_rfl)
  · cases h; exact tq false Tryz.func47 (by kernel_rfl)
  · cases h; exact tq false Tryz.func48 (by kernel_rfl)
  · cases h; exact tq false Tryz.func77 (by kernel_rfl)
  · cases h; exact tq false Tryz.func78 (by kernel_rfl)
  · cases h; exact tq false Tryz.func79 (by kernel_rfl)
  · cases h; exact tq false Tryz.func80 (by kernel_rfl)
  · cases h; exact tq false Tryz.func81 (by kernel_rfl)
  · cases h; exact tq false Tryz.func82 (by kernel_rfl)
  · cases h; exact tq false Tryz.func83 (by kernel_rfl)
  · cases h; exact tq false Tryz.func84 (by kernel_rfl)
  · cases h; exact tq false Tryz.func85 (by kernel_rfl)
  · cases h; exact tq false Tryz.func86 (by kernel_rfl)
  · cases h; exact tq false Tryz.func87 (by kernel_rfl)
  · cases h; exact tq false Tryz.func88 (by kernel_rfl)
  · cases h; exact tq false Tryz.func89 (by kernel_rfl)
  · cases h; exact tq false Tryz.func90 (by kernel_rfl)
  · cases h; exact tq false Tryz.func91 (by kernel_rfl)
  · cases h; exact tq false Tryz.func92 (by kernel_rfl)
  · cases h; exact tq false Tryz.func93 (by kernel_rfl)
  · cases h; exact tq false Tryz.func94 (by kernel_rfl)
  · cases h; exact tq false Tryz.func95 (by kernel_rfl)
  · cases h; exact tq false Tryz.func96 (by kernel_rfl)
  · cases h; exact tq false Tryz.func97 (by kernel_rfl)
  · cases h; exact tq false Tryz.func98 (by kernel_rfl)
  · cases h; exact tq false Tryz.func99 (by kernel_rfl)
  · cases h; exact tq false Tryz.func100 (by kernel_rfl)
  · cases h; exact tq false Tryz.func101 (by kernel_rfl)
  · cases h; exact tq false Tryz.func102 (by kernel_rfl)
  · cases h; exact tq false Tryz.func128 (by kernel_rfl)
  · cases h; exact tq false Tryz.func129 (by kernel_rfl)
  · cases h; exact tq false Tryz.func146 (by kernel_rfl)
  · cases h; exact tq false Tryz.func147 (by kernel_rfl)
  · cases h; exact tq false Tryz.func155 (by kernel_rfl)
  · cases h; exact tq false Tryz.func160 (by kernel_rfl)
  · cases h; exact tq false Tryz.func183 (by kernel_rfl)
  · cases h; exact tq false Tryz.func37 (by kernel_rfl)
  · cases h; exact tq false Tryz.func19 (by kernel_rfl)
  · cases h; exact tq false Tryz.func71 (by kernel_rfl)
  · cases h; exact tq false Tryz.func67 (by kernel_rfl)
  · cases h; exact tq false Tryz.func68 (by kernel_rfl)
  · cases h; exact tq true Tryz.func41 (by kernel_rfl)
  · cases h; exact tq false Tryz.func42 (by kernel_rfl)
  · cases h; exact tq false Tryz.func39 (by kernel_rfl)
  · cases h; exact tq true Tryz.func40 (by kernel_rfl)
  · cases h; exact tq false Tryz.func64 (by kernel_rfl)
  · cases h; exact tq false Tryz.func113 (by kernel_rfl)
  · cases h; exact tq false Tryz.func76 (by kernel_rfl)
  · cases h; exact tq false Tryz.func70 (by kernel_rfl)
  · cases h; exact tq false Tryz.func72 (by kernel_rfl)
  · cases h; exact tq false Tryz.func73 (by kernel_rfl)
  · cases h; exact tq false Tryz.func74 (by kernel_rfl)
  · cases h; exact tq false Tryz.func75 (by kernel_rfl)
  · cases h; exact tq false Tryz.func140 (by kernel_rfl)
  · cases h; exact tq false Tryz.func141 (by kernel_rfl)
  · cases h; exact tq false Tryz.func142 (by kernel_rfl)
  · cases h; exact tq false Tryz.func143 (by kernel_rfl)
  · cases h; exact tq false Tryz.func116 (by kernel_rfl)
  · cases h; exact tq false Tryz.func117 (by kernel_rfl)
  · cases h; exact tq false Tryz.func118 (by kernel_rfl)
  · cases h; exact tq false Tryz.func119 (by kernel_rfl)
  · cases h; exact tq false Tryz.func120 (by kernel_rfl)
  · cases h; exact tq false Tryz.func121 (by kernel_rfl)
  · cases h; exact tq false Tryz.func122 (by kernel_rfl)
  · cases h; exact tq false Tryz.func123 (by kernel_rfl)
  · cases h; exact tq false Tryz.func124 (by kernel_rfl)
  · cases h; exact tq false Tryz.func125 (by kernel_rfl)
  · cases h; exact tq false Tryz.func126 (by kernel_rfl)
  · cases h; exact tq false Tryz.func127 (by kernel_rfl)
  · cases h; exact tq false Tryz.func137 (by kernel_rfl)
  · cases h; exact tq false Tryz.func138 (by kernel_rfl)
  · cases h; exact tq false Tryz.func144 (by kernel_rfl)
  · cases h; exact tq false Tryz.func145 (by kernel_rfl)
  · cases h; exact tq true Tryz.func154 (by kernel_rfl)
  · cases h; exact tq false Tryz.func18 (by kernel_rfl)
  · cases h; exact tq false Tryz.func17 (by kernel_rfl)
  · cases h; exact tq false Tryz.func139 (by kernel_rfl)
  · cases h; exact tq false Tryz.func36 (by kernel_rfl)
  · cases h; exact tq false Tryz.func32 (by kernel_rfl)
  · cases h; exact tq false Tryz.func33 (by kernel_rfl)
  · cases h; exact tq false Tryz.func34 (by kernel_rfl)
  · cases h; exact tq false Tryz.func35 (by kernel_rfl)
  · cases h; exact tq false Tryz.func153 (by kernel_rfl)
  · cases h; exact tq false Tryz.func63 (by kernel_rfl)
  · cases h; exact tq false Tryz.func65 (by kernel_rfl)
  · cases h; exact tq false Tryz.func55 (by kernel_rfl)
  · cases h; exact tq false Tryz.func56 (by kernel_rfl)
  · cases h; exact tq false Tryz.func57 (by kernel_rfl)
  · cases h; exact tq false Tryz.func58 (by kernel_rfl)
  · cases h; exact tq false Tryz.func59 (by kernel_rfl)
  · cases h; exact tq false Tryz.func60 (by kernel_rfl)
  · cases h; exact tq false Tryz.func61 (by kernel_rfl)
  · cases h; exact tq false Tryz.func62 (by kernel_rfl)
  · cases h; exact tq false Tryz.func158 (by kernel_rfl)
  · cases h; exact tq false Tryz.func111 (by kernel_rfl)
  · cases h; exact tq false Tryz.func112 (by kernel_rfl)
  · cases h; exact tq false Tryz.func103 (by kernel_rfl)
  · cases h; exact tq false Tryz.func104 (by kernel_rfl)
  · cases h; exact tq false Tryz.func105 (by kernel_rfl)
  · cases h; exact tq false Tryz.func106 (by kernel_rfl)
  · cases h; exact tq false Tryz.func107 (by kernel_rfl)
  · cases h; exact tq false Tryz.func108 (by kernel_rfl)
  · cases h; exact tq false Tryz.func109 (by kernel_rfl)
  · cases h; exact tq false Tryz.func110 (by kernel_rfl)
  · cases h; exact tq false Tryz.func130 (by kernel_rfl)
  · cases h; exact tq false Tryz.func131 (by kernel_rfl)
  · cases h; exact tq false Tryz.func132 (by kernel_rfl)
  · cases h; exact tq false Tryz.func133 (by kernel_rfl)
  · cases h; exact tq false Tryz.func134 (by kernel_rfl)
  · cases h; exact tq false Tryz.func135 (by kernel_rfl)
  · cases h; exact tq false Tryz.func136 (by kernel_rfl)
  · cases h; exact tq false Tryz.func149 (by kernel_rfl)
  · cases h; exact tq false Tryz.func150 (by kernel_rfl)
  · cases h; exact tq false Tryz.func151 (by kernel_rfl)
  · cases h; exact tq false Tryz.func152 (by kernel_rfl)
  · cases h; exact tq false Tryz.func156 (by kernel_rfl)
  · cases h; exact tq false Tryz.func157 (by kernel_rfl)
  · cases h; exact tq false Tryz.func161 (by kernel_rfl)
  · cases h; exact tq false Tryz.func162 (by kernel_rfl)
  · cases h; exact tq false Tryz.func163 (by kernel_rfl)
  · cases h; exact tq false Tryz.func164 (by kernel_rfl)
  · cases h; exact tq false Tryz.func165 (by kernel_rfl)
  · cases h; exact tq false Tryz.func166 (by kernel_rfl)
  · cases h; exact tq false Tryz.func167 (by kernel_rfl)
  · cases h; exact tq false Tryz.func3 (by kernel_rfl)
  · cases h; exact tq false Tryz.func5 (by kernel_rfl)
  · cases h; exact tq false Tryz.func23 (by kernel_rfl)
  · cases h
theorem glb {w : World} (h : laidMet Tryz.prog [("arenanet/compile.effects", Rows.laid_arenanet_compile_effects), ("arenanet/vm.effects", Rows.laid_arenanet_vm_effects)] w) : GlbAt fid w := fun g cs hg => by
  simp only [fid, ids, idsG] at hg
  split at hg
  · cases hg
    exact ⟨(effRows.flatten.map (Value.int .i64)), glb_of_laids (P := Tryz.prog) (n := "arenanet/vm.effects") (d := Rows.laid_arenanet_vm_effects) (L := [("arenanet/compile.effects", Rows.laid_arenanet_compile_effects), ("arenanet/vm.effects", Rows.laid_arenanet_vm_effects)]) (g := 0) (t := 97) (vs := (effRows.flatten.map (Value.int .i64))) (m := 4) (by simp) (by kernel_rfl) (by kernel_rfl) (by kernel_rfl) (by kernel_rfl) h⟩
  · cases hg
    exact ⟨(effRows15.flatten.map (Value.int .i64)), glb_of_laids (P := Tryz.prog) (n := "arenanet/compile.effects") (d := Rows.laid_arenanet_compile_effects) (L := [("arenanet/compile.effects", Rows.laid_arenanet_compile_effects), ("arenanet/vm.effects", Rows.laid_arenanet_vm_effects)]) (g := 1) (t := 167) (vs := (effRows15.flatten.map (Value.int .i64))) (m := 4) (by simp) (by kernel_rfl) (by kernel_rfl) (by kernel_rfl) (by kernel_rfl) h⟩
  · cases hg
end Go.Proofs.YtebnoobfoajkbaaGreatDoor.T
end
