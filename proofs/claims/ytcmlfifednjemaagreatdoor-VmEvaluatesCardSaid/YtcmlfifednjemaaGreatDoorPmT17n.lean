/- The given program, held against the abstract one: function by function, by the kernel. -/
import Derived.Test.YtcmlfifednjemaaGreatDoorRows
import Derived.Test.YtcmlfifednjemaaGreatDoorPmR
import Derived.Test.YtcmlfifednjemaaGreatDoorPmHc
import Derived.KernelRfl
set_option linter.unusedSimpArgs false
set_option linter.unusedVariables false
section
namespace Go.Proofs.YtcmlfifednjemaaGreatDoor.T
open Go.Pm Go.Pm.F
def prL : List (Nat × Nat) := [(3,360),(4,45),(5,359),(6,17),(7,177),(8,234),(9,179),(10,228),(11,131),(12,46),(13,50),(14,49),(15,52),(16,51),(17,100),(18,350),(19,60),(20,55),(21,136),(22,176),(23,178),(24,246),(25,239),(26,240),(27,241),(28,242),(29,15),(30,147),(31,148),(32,139),(33,140),(34,63),(35,64),(36,62),(37,1000),(38,161),(39,71),(40,61),(41,65),(42,66),(43,261),(44,20),(45,247),(46,249),(47,250),(48,251),(49,252),(50,253),(51,254),(52,255),(53,256),(54,32),(55,165),(56,134),(57,166),(58,167),(59,168),(60,169),(61,164),(62,74),(63,75),(64,76),(65,77),(66,81),(67,262),(68,264),(69,265),(70,266),(71,267),(72,268),(73,269),(74,270),(75,271),(76,38),(77,39),(78,180),(79,181),(80,182),(81,183),(82,184),(83,185),(84,186),(85,187),(86,188),(87,189),(88,190),(89,191),(90,82),(91,83),(92,84),(93,85),(94,86),(95,87),(96,88),(97,89),(98,90),(99,91),(100,92),(101,93),(102,94),(103,95),(104,96),(105,97),(106,98),(107,99),(108,101),(109,102),(110,103),(111,104),(112,105),(113,106),(114,107),(115,78),(116,192),(117,193),(118,275),(119,276),(120,277),(121,278),(122,279),(123,280),(124,281),(125,200),(126,201),(127,108),(128,109),(130,284),(131,285),(132,286),(133,287),(134,204),(135,110),(136,111),(137,289),(138,290),(139,112),(140,292),(141,113),(142,297),(143,303),(144,304),(145,307),(146,308),(147,309),(165,114)]
def idsT : TypeId → Option Nat := fun t => match t with
  | 55 => some 0
  | 46 => some 1
  | 5 => some 3
  | _ => none
def idsG : Nat → Option (List D) := fun g => match g with
  | 0 => some G_arenanet_vm_effects
  | 1 => some G_arenanet_compile_effects
  | _ => none
def ids : Ids := ⟨toL prL, idsT, idsG, false, false⟩
def fidT : Nat → TypeId := fun k => match k with
  | 0 => 55
  | 1 => 46
  | 3 => 5
  | _ => 0

def fid : Fid := ⟨ofL prL, fun N c pc => 2 * N ≤ dkey ∧ ∃ K ow d, comp Tryz.prog (ids.with ow d) N K c = some pc, fidT, fun g t nm => ∃ f, methT Tryz.prog t nm = some f ∧ ids.fn f = some g, ids.gl⟩
theorem hid : Ties Tryz.prog ids fid := by
  refine ⟨fun f g h => prs (by kernel_rfl) h, fun t u h => ?_, fun _ _ _ => Iff.rfl, fun _ _ h => h⟩
  · simp only [ids, idsT] at h
    first | cases h | (split at h <;> first | (cases h; rfl) | cases h)
theorem hcr : Codes Tryz.prog ids fid := fun _ _ _ => Iff.rfl
theorem mixed : Tryz.prog.follows .mixedOrders = true := by kernel_rfl
theorem tied : Tied Tryz.prog ids fid prog17e := fun f pf h => by
  unfold prog17e at h
  split at h
  · cases h; exact tq false Tryz.func29 (by kernel_rfl)
  · cases h; exact tq false Tryz.func6 (by kernel_rfl)
  · cases h; exact tq false Tryz.func44 (by kernel_rfl)
  · cases h; exact tq false Tryz.func54 (by kernel_rfl)
  · cases h; exact tq false Tryz.func76 (by kernel_rfl)
  · cases h; exact tq false Tryz.func77 (by kernel_rfl)
  · cases h; exact tq false Tryz.func4 (by kernel_rfl)
  · cases h; exact tq false Tryz.func12 (by kernel_rfl)
  · cases h; exact tq false Tryz.func14 (by kernel_rfl)
  · cases h; exact tq false Tryz.func13 (by kernel_rfl)
  · cases h; exact tq false Tryz.func16 (by kernel_rfl)
  · cases h; exact tq false Tryz.func15 (by kernel_rfl)
  · cases h; exact tq false Tryz.func20 (by kernel_rfl)
  · cases h; exact tq false Tryz.func19 (by kernel_rfl)
  · cases h; exact tq false Tryz.func40 (by kernel_rfl)
  · cases h; exact tq false Tryz.func36 (by kernel_rfl)
  · cases h; exact tq false Tryz.func34 (by kernel_rfl)
  · cases h; exact tq false Tryz.func35 (by kernel_rfl)
  · cases h; exact tq false Tryz.func41 (by kernel_rfl)
  · cases h; exact tq false Tryz.func42 (by kernel_rfl)
  · cases h; exact tq false Tryz.func39 (by kernel_rfl)
  · cases h; exact tq false Tryz.func62 (by kernel_rfl)
  · cases h; exact tq false Tryz.func63 (by kernel_rfl)
  · cases h; exact tq false Tryz.func64 (by kernel_rfl)
  · cases h; exact tq false Tryz.func65 (by kernel_rfl)
  · cases h; exact tq false Tryz.func115 (by kernel_rfl)
  · cases h; exact tq false Tryz.func66 (by kernel_rfl)
  · cases h; exact tq false Tryz.func90 (by kernel_rfl)
  · cases h; exact tq false Tryz.func91 (by kernel_rfl)
  · cases h; exact tq false Tryz.func92 (by kernel_rfl)
  · cases h; exact tq false Tryz.func93 (by kernel_rfl)
  · cases h; exact tq false Tryz.func94 (by kernel_rfl)
  · cases h; exact tq false Tryz.func95 (by kernel_rfl)
  · cases h; exact tq false Tryz.func96 (by kernel_rfl)
  · cases h; exact tq false Tryz.func97 (by kernel_rfl)
  · cases h; exact tq false Tryz.func98 (by kernel_rfl)
  · cases h; exact tq false Tryz.func99 (by kernel_rfl)
  · cases h; exact tq false Tryz.func100 (by kernel_rfl)
  · cases h; exact tq false Tryz.func101 (by kernel_rfl)
  · cases h; exact tq false Tryz.func102 (by kernel_rfl)
  · cases h; exact tq false Tryz.func103 (by kernel_rfl)
  · cases h; exact tq false Tryz.func104 (by kernel_rfl)
  · cases h; exact tq false Tryz.func105 (by kernel_rfl)
  · cases h; exact tq false Tryz.func106 (by kernel_rfl)
  · cases h; exact tq false Tryz.func107 (by kernel_rfl)
  · cases h; exact tq false Tryz.func17 (by kernel_rfl)
  · cases h; exact tq false Tryz.func108 (by kernel_rfl)
  · cases h; exact tq false Tryz.func109 (by kernel_rfl)
  · cases h; exact tq false Tryz.func110 (by kernel_rfl)
  · cases h; exact tq false Tryz.func111 (by kernel_rfl)
  · cases h; exact tq false Tryz.func112 (by kernel_rfl)
  · cases h; exact tq false Tryz.func113 (by kernel_rfl)
  · cases h; exact tq false Tryz.func114 (by kernel_rfl)
  · cases h; exact tq false Tryz.func127 (by kernel_rfl)
  · cases h; exact tq false Tryz.func128 (by kernel_rfl)
  · cases h; exact tq false Tryz.func135 (by kernel_rfl)
  · cases h; exact tq false Tryz.func136 (by kernel_rfl)
  · cases h; exact tq false Tryz.func139 (by kernel_rfl)
  · cases h; exact tq false Tryz.func141 (by kernel_rfl)
  · cases h; exact tq false Tryz.func165 (by kernel_rfl)
  · cases h; exact tq false Tryz.func11 (by kernel_rfl)
  · cases h; exact tq false Tryz.func56 (by kernel_rfl)
  · cases h; exact tq false Tryz.func21 (by kernel_rfl)
  · cases h; exact tq true Tryz.func32 (by kernel_rfl)
  · cases h; exact tq false Tryz.func33 (by kernel_rfl)
  · cases h; exact tq false Tryz.func30 (by kernel_rfl)
  · cases h; exact tq true Tryz.func31 (by kernel_rfl)
  · cases h; exact tq false Tryz.func38 (by kernel_rfl)
  · cases h; exact tq false Tryz.func61 (by kernel_rfl)
  · cases h; exact tq false Tryz.func55 (by kernel_rfl)
  · cases h; exact tq false Tryz.func57 (by kernel_rfl)
  · cases h; exact tq false Tryz.func58 (by kernel_rfl)
  · cases h; exact tq false Tryz.func59 (by kernel_rfl)
  · cases h; exact tq false Tryz.func60 (by kernel_rfl)
  · cases h; exact tq false Tryz.func22 (by kernel_rfl)
  · cases h; exact tq false Tryz.func7 (by kernel_rfl)
  · cases h; exact tq false Tryz.func23 (by kernel_rfl)
  · cases h; exact tq false Tryz.func9 (by kernel_rfl)
  · cases h; exact tq false Tryz.func78 (by kernel_rfl)
  · cases h; exact tq false Tryz.func79 (by kernel_rfl)
  · cases h; exact tq false Tryz.func80 (by kernel_rfl)
  · cases h; exact tq false Tryz.func81 (by kernel_rfl)
  · cases h; exact tq false Tryz.func82 (by kernel_rfl)
  · cases h; exact tq false Tryz.func83 (by kernel_rfl)
  · cases h; exact tq false Tryz.func84 (by kernel_rfl)
  · cases h; exact tq false Tryz.func85 (by kernel_rfl)
  · cases h; exact tq false Tryz.func86 (by kernel_rfl)
  · cases h; exact tq false Tryz.func87 (by kernel_rfl)
  · cases h; exact tq false Tryz.func88 (by kernel_rfl)
  · cases h; exact tq false Tryz.func89 (by kernel_rfl)
  · cases h; exact tq false Tryz.func116 (by kernel_rfl)
  · cases h; exact tq false Tryz.func117 (by kernel_rfl)
  · cases h; exact tq false Tryz.func125 (by kernel_rfl)
  · cases h; exact tq false Tryz.func126 (by kernel_rfl)
  · cases h; exact tq true Tryz.func134 (by kernel_rfl)
  · cases h; exact tq false Tryz.func10 (by kernel_rfl)
  · cases h; exact tq false Tryz.func8 (by kernel_rfl)
  · cases h; exact tq false Tryz.func25 (by kernel_rfl)
  · cases h; exact tq false Tryz.func26 (by kernel_rfl)
  · cases h; exact tq false Tryz.func27 (by kernel_rfl)
  · cases h; exact tq false Tryz.func28 (by kernel_rfl)
  · cases h; exact tq false Tryz.func24 (by kernel_rfl)
  · cases h; exact tq false Tryz.func45 (by kernel_rfl)
  · cases h; exact tq false Tryz.func46 (by kernel_rfl)
  · cases h; exact tq false Tryz.func47 (by kernel_rfl)
  · cases h; exact tq false Tryz.func48 (by kernel_rfl)
  · cases h; exact tq false Tryz.func49 (by kernel_rfl)
  · cases h; exact tq false Tryz.func50 (by kernel_rfl)
  · cases h; exact tq false Tryz.func51 (by kernel_rfl)
  · cases h; exact tq false Tryz.func52 (by kernel_rfl)
  · cases h; exact tq false Tryz.func53 (by kernel_rfl)
  · cases h; exact tq false Tryz.func43 (by kernel_rfl)
  · cases h; exact tq false Tryz.func67 (by kernel_rfl)
  · cases h; exact tq false Tryz.func68 (by kernel_rfl)
  · cases h; exact tq false Tryz.func69 (by kernel_rfl)
  · cases h; exact tq false Tryz.func70 (by kernel_rfl)
  · cases h; exact tq false Tryz.func71 (by kernel_rfl)
  · cases h; exact tq false Tryz.func72 (by kernel_rfl)
  · cases h; exact tq false Tryz.func73 (by kernel_rfl)
  · cases h; exact tq false Tryz.func74 (by kernel_rfl)
  · cases h; exact tq false Tryz.func75 (by kernel_rfl)
  · cases h; exact tq false Tryz.func118 (by kernel_rfl)
  · cases h; exact tq false Tryz.func119 (by kernel_rfl)
  · cases h; exact tq false Tryz.func120 (by kernel_rfl)
  · cases h; exact tq false Tryz.func121 (by kernel_rfl)
  · cases h; exact tq false Tryz.func122 (by kernel_rfl)
  · cases h; exact tq false Tryz.func123 (by kernel_rfl)
  · cases h; exact tq false Tryz.func124 (by kernel_rfl)
  · cases h; exact tq false Tryz.func130 (by kernel_rfl)
  · cases h; exact tq false Tryz.func131 (by kernel_rfl)
  · cases h; exact tq false Tryz.func132 (by kernel_rfl)
  · cases h; exact tq false Tryz.func133 (by kernel_rfl)
  · cases h; exact tq false Tryz.func137 (by kernel_rfl)
  · cases h; exact tq false Tryz.func138 (by kernel_rfl)
  · cases h; exact tq false Tryz.func140 (by kernel_rfl)
  · cases h; exact tq false Tryz.func142 (by kernel_rfl)
  · cases h; exact tq false Tryz.func143 (by kernel_rfl)
  · cases h; exact tq false Tryz.func144 (by kernel_rfl)
  · cases h; exact tq false Tryz.func145 (by kernel_rfl)
  · cases h; exact tq false Tryz.func146 (by kernel_rfl)
  · cases h; exact tq false Tryz.func147 (by kernel_rfl)
  · cases h; exact tq false Tryz.func18 (by kernel_rfl)
  · cases h; exact tq false Tryz.func37 (by kernel_rfl)
  · cases h; exact tq true Tryz.func5 (by kernel_rfl)
  · cases h; exact tq false Tryz.func3 (by kernel_rfl)
  · cases h
theorem glb {w : World} (h : laidMet Tryz.prog [("arenanet/compile.effects", Rows.laid_arenanet_compile_effects), ("arenanet/vm.effects", Rows.laid_arenanet_vm_effects)] w) : GlbAt fid w := fun g cs hg => by
  simp only [fid, ids, idsG] at hg
  split at hg
  · cases hg
    exact ⟨(effRows.flatten.map (Value.int .i64)), glb_of_laids (P := Tryz.prog) (n := "arenanet/vm.effects") (d := Rows.laid_arenanet_vm_effects) (L := [("arenanet/compile.effects", Rows.laid_arenanet_compile_effects), ("arenanet/vm.effects", Rows.laid_arenanet_vm_effects)]) (g := 0) (t := 117) (vs := (effRows.flatten.map (Value.int .i64))) (m := 4) (by simp) (by kernel_rfl) (by kernel_rfl) (by kernel_rfl) (by kernel_rfl) h⟩
  · cases hg
    exact ⟨(effRows15.flatten.map (Value.int .i64)), glb_of_laids (P := Tryz.prog) (n := "arenanet/compile.effects") (d := Rows.laid_arenanet_compile_effects) (L := [("arenanet/compile.effects", Rows.laid_arenanet_compile_effects), ("arenanet/vm.effects", Rows.laid_arenanet_vm_effects)]) (g := 1) (t := 145) (vs := (effRows15.flatten.map (Value.int .i64))) (m := 4) (by simp) (by kernel_rfl) (by kernel_rfl) (by kernel_rfl) (by kernel_rfl) h⟩
  · cases hg
end Go.Proofs.YtcmlfifednjemaaGreatDoor.T
end
