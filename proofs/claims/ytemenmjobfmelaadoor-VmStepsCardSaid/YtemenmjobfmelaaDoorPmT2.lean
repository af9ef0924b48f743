/- The given program, held against the abstract one: function by function, by the kernel. -/
import Derived.Test.YtemenmjobfmelaaDoorRows
import Derived.Test.YtemenmjobfmelaaDoorPmY
import Derived.Test.YtemenmjobfmelaaDoorPmW
import Derived.Test.YtemenmjobfmelaaDoorPmF16
import Derived.KernelRfl
set_option linter.unusedSimpArgs false
set_option linter.unusedVariables false
section ST2
namespace Go.Proofs.YtemenmjobfmelaaDoor.T
open Go.Pm Go.Pm.F
def idsF : FuncId → Option Nat := fun f => match f with
  | 3 => some 40
  | 4 => some 41
  | 5 => some 42
  | 6 => some 43
  | 7 => some 44
  | 8 => some 45
  | 9 => some 46
  | 10 => some 47
  | 11 => some 48
  | 12 => some 17
  | 13 => some 49
  | 14 => some 50
  | 15 => some 51
  | 16 => some 52
  | 17 => some 53
  | 18 => some 54
  | 19 => some 55
  | 20 => some 56
  | 21 => some 57
  | 22 => some 58
  | 23 => some 59
  | 24 => some 60
  | 25 => some 61
  | 26 => some 62
  | 27 => some 63
  | 28 => some 64
  | 29 => some 65
  | 30 => some 66
  | 31 => some 67
  | 32 => some 68
  | 33 => some 1000
  | 34 => some 69
  | 35 => some 70
  | 36 => some 71
  | 37 => some 72
  | 38 => some 73
  | 39 => some 74
  | 40 => some 75
  | 41 => some 76
  | 42 => some 77
  | 43 => some 78
  | 44 => some 79
  | 45 => some 80
  | 46 => some 81
  | 47 => some 82
  | 48 => some 83
  | 49 => some 84
  | 50 => some 85
  | 51 => some 86
  | 52 => some 87
  | 53 => some 88
  | 54 => some 89
  | 55 => some 90
  | 56 => some 91
  | 57 => some 92
  | 58 => some 93
  | 59 => some 94
  | 60 => some 95
  | 61 => some 96
  | 62 => some 97
  | 63 => some 98
  | 64 => some 99
  | 65 => some 100
  | 66 => some 101
  | 67 => some 102
  | 68 => some 103
  | 69 => some 104
  | 70 => some 105
  | 71 => some 106
  | 72 => some 107
  | 73 => some 108
  | 74 => some 109
  | 75 => some 110
  | 76 => some 111
  | 77 => some 112
  | 78 => some 113
  | 94 => some 114
  | 99 => some 115
  | _ => none
def idsT : TypeId → Option Nat := fun t => match t with
  | 33 => some 0
  | _ => none
def idsG : Nat → Option (List D) := fun g => match g with
  | 0 => some G_arenanet_vm_effects
  | _ => none
def ids : Ids := ⟨idsF, idsT, idsG, false, false⟩
def fidF : Nat → FuncId := fun k => match k with
  | 40 => 3
  | 41 => 4
  | 42 => 5
  | 43 => 6
  | 44 => 7
  | 45 => 8
  | 46 => 9
  | 47 => 10
  | 48 => 11
  | 17 => 12
  | 49 => 13
  | 50 => 14
  | 51 => 15
  | 52 => 16
  | 53 => 17
  | 54 => 18
  | 55 => 19
  | 56 => 20
  | 57 => 21
  | 58 => 22
  | 59 => 23
  | 60 => 24
  | 61 => 25
  | 62 => 26
  | 63 => 27
  | 64 => 28
  | 65 => 29
  | 66 => 30
  | 67 => 31
  | 68 => 32
  | 1000 => 33
  | 69 => 34
  | 70 => 35
  | 71 => 36
  | 72 => 37
  | 73 => 38
  | 74 => 39
  | 75 => 40
  | 76 => 41
  | 77 => 42
  | 78 => 43
  | 79 => 44
  | 80 => 45
  | 81 => 46
  | 82 => 47
  | 83 => 48
  | 84 => 49
  | 85 => 50
  | 86 => 51
  | 87 => 52
  | 88 => 53
  | 89 => 54
  | 90 => 55
  | 91 => 56
  | 92 => 57
  | 93 => 58
  | 94 => 59
  | 95 => 60
  | 96 => 61
  | 97 => 62
  | 98 => 63
  | 99 => 64
  | 100 => 65
  | 101 => 66
  | 102 => 67
  | 103 => 68
  | 104 => 69
  | 105 => 70
  | 106 => 71
  | 107 => 72
  | 108 => 73
  | 109 => 74
  | 110 => 75
  | 111 => 76
  | 112 => 77
  | 113 => 78
  | 114 => 94
  | 115 => 99
  | _ => 0
def fidT : Nat → TypeId := fun k => match k with
  | 0 => 33
  | _ => 0

theorem tie40 : compF Tryd.prog ids (fun i => ([[0, 1, 2, 3], [1, 2, 3, 9], [1, 3, 9, 10], [3, 9, 10, 11], [3, 9, 10, 11, 26], [8], [9, 10, 11, 12], [9, 10, 11, 12, 34], [8], [9, 10, 11, 12, 13], [9, 10, 11, 12, 13, 38], [9, 10, 11, 12, 13], [9, 10, 11, 12, 13, 46], [8], [9, 10, 11, 12, 13, 14], [9, 10, 11, 12, 13, 56], [8], [8]] : List (List Nat)).getD i []) false false false false Tryd.f3 = some F40 := by kernel_rfl
theorem tie41 : compF Tryd.prog ids (fun i => ([[0, 1], [1, 5], [5, 6], [5, 6, 7], [5, 6, 7, 42], [4], [5, 6, 7, 8], [5, 6, 7, 8, 9], [5, 6, 7, 8, 9, 47], [5, 6, 7, 8, 9], [5, 6, 7, 8, 9, 10], [5, 6, 7, 8, 9, 62], [4], [5, 6, 7, 11], [4]] : List (List Nat)).getD i []) false false false false Tryd.f4 = some F41 := by kernel_rfl
theorem tie42 : compF Tryd.prog ids (fun i => ([[0, 1, 2], [1, 2, 7], [1, 2, 7, 8], [1, 2, 7, 8, 9], [1, 2, 7, 8, 9, 35], [6], [1, 7, 8, 9, 10], [1, 7, 8, 9, 10, 11], [1, 7, 8, 9, 10, 11, 40], [1, 7, 8, 9, 10, 11], [1, 7, 8, 9, 10, 11, 12], [1, 7, 8, 9, 10, 11, 12, 46], [1, 7, 8, 9, 10, 11, 12], [1, 7, 8, 9, 10, 11, 12, 13], [1, 7, 8, 9, 10, 11, 12, 13, 14], [1, 7, 8, 9, 10, 11, 12, 13, 14], [1, 7, 8, 9, 10, 11, 12, 13, 14], [1, 7, 8, 9, 10, 11, 12, 13, 14, 15], [1, 7, 8, 9, 10, 11, 12, 13, 14, 15, 70], [1, 7, 8, 9, 10, 11, 12, 13, 14, 15], [1, 7, 8, 9, 10, 11, 12, 13, 14, 15, 17, 18], [1, 7, 8, 9, 10, 11, 12, 13, 14, 15, 17, 18, 20, 21], [1, 7, 8, 9, 10, 11, 12, 13, 14, 15, 119], [6], [1, 7, 8, 9, 10, 11, 127], [6], [6]] : List (List Nat)).getD i []) false false false false Tryd.f5 = some F42 := by kernel_rfl
theorem tie43 : compF Tryd.prog ids (fun i => ([[0, 1, 2, 3, 4], [1, 2, 3, 4, 11], [2, 3, 4, 11, 12], [3, 4, 11, 12, 13], [3, 4, 11, 12, 13, 14], [3, 4, 11, 12, 13, 14, 36], [10], [3, 4, 11, 12, 13, 14, 15], [3, 4, 11, 12, 13, 14, 15, 16, 17], [4, 11, 12, 13, 14, 15, 16, 17, 51], [4, 11, 12, 13, 14, 15, 17], [11, 12, 13, 14, 61], [10], [11, 12, 13, 14, 18], [11, 12, 13, 14, 18, 63], [11, 12, 13, 14, 18], [11, 12, 14, 18, 19, 20, 21, 22], [11, 12, 13, 14, 18, 20, 21, 22], [11, 12, 13, 14, 18, 20, 21, 22, 23, 24, 25], [11, 12, 13, 14, 18, 20, 104], [10], [11, 12, 13, 14, 18, 109], [10]] : List (List Nat)).getD i []) false false false false Tryd.f6 = some F43 := by kernel_rfl
theorem tie44 : compF Tryd.prog ids (fun i => ([[0, 1, 2], [1, 2, 7], [1, 7, 8], [7, 8, 9], [7, 8, 9, 29], [6], [7, 8, 9, 10], [7, 8, 9, 10, 31], [7, 8, 9, 10], [7, 8, 9, 10, 11], [7, 8, 9, 10, 11, 14], [7, 8, 9, 10, 11, 14, 15], [7, 8, 9, 10, 11, 14, 15, 51], [6], [7, 8, 9, 10, 11, 14, 15, 16], [7, 8, 9, 10, 11, 14, 15, 16, 17], [7, 8, 9, 10, 11, 14, 15, 16, 17, 55], [7, 8, 9, 10, 11, 14, 15, 16, 17], [7, 8, 9, 10, 11, 14, 15, 16, 17, 18], [7, 8, 9, 10, 11, 14, 15, 16, 17, 18, 19], [7, 8, 9, 10, 11, 14, 15, 16, 17, 91], [7, 8, 9, 10, 11, 14, 15, 16, 17], [7, 8, 9, 10, 11, 14, 15, 16, 17, 107], [6], [7, 8, 9, 10, 109], [6], [6]] : List (List Nat)).getD i []) false false false false Tryd.f7 = some F44 := by kernel_rfl
theorem tie45 : compF Tryd.prog ids (fun i => ([[0, 2], [0, 2, 3], [0, 2, 3, 4], [0, 2, 3, 4, 12], [0, 2, 3, 4], [0, 2, 3, 4, 5], [0, 2, 3, 4, 5, 18], [0, 2, 3, 4, 5], [0, 2, 3, 4], [2, 3, 6], [2, 3, 6], [2, 3, 6], [2, 3, 6], [2, 3, 6, 7], [2, 3, 6, 7, 101], [2, 3, 6, 7], [2, 3, 6, 7, 8], [2, 3, 6, 7, 8, 9], [2, 3, 6, 7, 8, 9, 10], [2, 3, 6, 7, 10], [2, 3, 6, 7], [2]] : List (List Nat)).getD i []) false false false false Tryd.f8 = some F45 := by kernel_rfl
theorem tie46 : compF Tryd.prog ids (fun i => ([[0], [0, 3], [0, 3, 11, 12], [0, 3, 11, 12, 13], [0, 3, 4, 11, 12], [0, 3, 11, 12], [0, 3, 11, 12], [2]] : List (List Nat)).getD i []) false false false false Tryd.f9 = some F46 := by kernel_rfl
theorem tie47 : compF Tryd.prog ids (fun i => ([[1, 2], [1, 5], [1, 5, 6], [1, 5, 6, 22], [1, 5, 6], [1, 5, 6, 7], [1, 5, 6, 7, 8], [1, 5, 6, 7, 8, 9], [1, 5, 6, 7, 8, 9, 43], [1, 5, 6, 7, 8, 9], [1, 5, 6, 7, 8, 9, 59], [1, 5, 6, 7, 8, 9], [1, 5, 6, 7, 8, 9, 63], [1, 5, 6, 7, 9], [1, 5, 6], [4]] : List (List Nat)).getD i []) false true false false Tryd.f10 = some F47 := by kernel_rfl
theorem tie48 : compF Tryd.prog ids (fun i => ([[0, 2], [0, 2, 3], [0, 2, 3, 4], [0, 2, 3, 4, 15], [0, 2, 3, 4], [0, 2, 3, 4, 5], [0, 2, 3, 4, 5, 6], [0, 2, 3, 4, 5, 6, 37], [0, 2, 3, 4, 5, 6], [0, 2, 3, 4, 5, 6, 52], [0, 2, 3, 4, 5, 6], [0, 2, 3, 4, 5, 6, 59], [0, 2, 3, 4, 6], [0, 2, 3, 4], [0, 2, 3, 7], [0, 2, 3, 7, 72], [0, 2, 3, 7], [0, 2, 3, 7], [2]] : List (List Nat)).getD i []) false false false false Tryd.f11 = some F48 := by kernel_rfl
theorem tie17 : compF Tryd.prog ids (fun i => ([[0, 1], [0, 1, 6], [0, 1], [4]] : List (List Nat)).getD i []) false false false false Tryd.f12 = some F17 := by kernel_rfl
theorem tie49 : compF Tryd.prog ids (fun i => ([[0, 2, 3, 4, 5, 7], [0, 2, 3, 4, 5, 7, 29], [12], [0, 3, 4, 5], [0, 3, 4, 5], [0, 3, 4], [0, 4], [], [12]] : List (List Nat)).getD i []) false false false false Tryd.f13 = some F49 := by kernel_rfl
theorem tie50 : compF Tryd.prog ids (fun i => ([[], [1], [1, 2], [1, 2, 3], [1, 2, 3, 22], [0], [1, 2, 3, 27], [0], [1, 2, 3, 4], [1, 2, 3, 4, 29], [1, 2, 3, 4], [1, 2, 3, 4, 5], [1, 2, 3, 4, 41], [0], [2, 8], [0]] : List (List Nat)).getD i []) false false false false Tryd.f14 = some F50 := by kernel_rfl
theorem tie51 : compF Tryd.prog ids (fun i => ([[0, 1], [0, 1, 8], [4], [4]] : List (List Nat)).getD i []) false false false false Tryd.f15 = some F51 := by kernel_rfl
theorem tie52 : compF Tryd.prog ids (fun i => ([[0, 4, 5, 7], [0, 4, 5, 7, 19], [6, 7, 8], [0, 4, 5, 7, 9, 10, 11], [0, 4, 5, 7, 9, 10, 11, 49], [6, 7, 8], [0, 4, 7, 9, 10, 11, 12], [0, 4, 7, 9, 10, 11, 12, 13, 14], [0, 4, 7, 9, 10, 11, 12, 13, 14, 15], [0, 4, 7, 9, 10, 11, 12, 13, 14, 15, 16], [0, 4, 7, 9, 10, 11, 12, 13, 14, 15, 16, 73], [0, 4, 7, 9, 10, 11, 12, 13, 14, 15, 16, 73, 74], [0, 4, 7, 9, 10, 11, 12, 13, 14, 15, 16, 76], [0, 4, 7, 9, 10, 11, 12, 13, 14, 15, 16], [0, 4, 7, 9, 10, 11, 12, 13, 14, 15], [0, 4, 7, 9, 10, 12, 13, 14, 15], [0, 4, 7, 10, 12, 13, 14, 15], [0, 4, 7, 10, 12, 13, 14, 15, 97], [0, 4, 7, 10, 12, 13, 14, 15], [0, 7, 8, 10, 12, 13, 14, 17], [0, 7, 8, 10, 12, 13, 17, 116], [7, 8, 12], [6, 7, 8]] : List (List Nat)).getD i []) false false false false Tryd.f16 = some F52 := by kernel_rfl
theorem tie53 : compF Tryd.prog ids (fun i => ([[0, 1], [4]] : List (List Nat)).getD i []) false false false false Tryd.f17 = some F53 := by kernel_rfl
theorem tie54 : compF Tryd.prog ids (fun i => ([[0, 1, 2], [0, 1, 2, 7], [0, 1, 7, 8], [0, 1, 7, 8, 21], [7, 8], [7, 8, 9], [7, 8, 9, 32], [6], [7, 8, 9], [7, 8, 9, 10], [7, 8, 9, 10, 41], [7, 8, 9, 10], [7, 8, 9, 10], [6]] : List (List Nat)).getD i []) false false false false Tryd.f18 = some F54 := by kernel_rfl
theorem tie55 : compF Tryd.prog ids (fun i => ([[1], [1, 3], [1, 3, 4], [1, 3, 4, 14], [1, 3, 4], [1, 3, 4, 5], [1, 3, 4, 5, 6], [1, 3, 4, 5, 6], [1, 3, 4, 5, 6], [1, 3, 4, 5, 6], [1, 3, 4, 5, 6], [1, 3, 4, 5, 6], [1, 3, 4], [2]] : List (List Nat)).getD i []) false false false false Tryd.f19 = some F55 := by kernel_rfl
theorem tie56 : compF Tryd.prog ids (fun i => ([[0, 2, 3, 4, 5, 7], [0, 2, 3, 4, 5, 7, 20], [12, 13], [0, 2, 3, 4, 5, 7, 26], [12, 13], [2, 3, 4, 5, 7, 14], [3, 4, 5, 14], [3, 4, 5, 14], [3, 4, 14], [4, 14], [14], [12, 13]] : List (List Nat)).getD i []) false true false false Tryd.f20 = some F56 := by kernel_rfl
theorem tie57 : compF Tryd.prog ids (fun i => ([[0, 4, 5, 8], [0, 4, 5, 8, 21], [6, 7, 8, 9], [0, 4, 8, 10], [4, 8, 10, 11], [4, 8, 10, 11], [4, 8, 10, 11], [4, 8, 10, 11, 12], [4, 8, 10, 11, 12], [4, 8, 10, 11, 12, 13], [4, 8, 10, 11, 12, 13, 14], [4, 8, 10, 11, 12, 13, 14, 15], [4, 8, 10, 11, 12, 13, 14, 15, 60], [4, 8, 10, 11, 12, 13, 14, 15], [4, 8, 10, 11, 13, 14, 15, 67], [4, 8, 10, 11, 13, 14, 15], [4, 8, 10, 11, 13, 14, 15, 16], [4, 8, 10, 11, 13, 14, 15, 16, 75], [8, 10, 11, 13, 16], [4, 8, 10, 11, 13, 14, 15, 16, 75, 81], [8, 10, 11, 13, 16], [4, 8, 10, 11, 13, 14, 15, 16, 75, 85], [8, 10, 11, 13, 16], [4, 8, 10, 11, 13, 14, 15, 16, 75, 93], [8, 10, 11, 13, 16], [4, 8, 10, 11, 13, 14, 15, 16, 75, 98], [8, 10, 11, 13, 16], [4, 8, 10, 11, 13, 14, 15, 16, 75, 103], [8, 10, 11, 13, 16], [4, 8, 10, 11, 13, 14, 15, 16, 75, 108], [8, 10, 11, 13, 16], [4, 8, 10, 11, 13, 14, 15, 16, 75, 116], [8, 10, 11, 13, 16], [4, 8, 10, 11, 13, 14, 15, 16, 75, 124], [6, 7, 8, 9], [8, 10, 11, 13, 14, 15, 16, 75, 134], [8, 10, 11, 13, 16], [8, 10, 11, 13, 14, 15, 16, 75, 140], [8, 10, 11, 13, 16, 143], [8, 10, 11, 13, 16], [8, 10, 11, 13, 14, 15, 75, 148], [6, 7, 8, 9], [8, 10, 11, 13, 14, 15, 152], [8, 11, 14, 15, 157], [6, 7, 8, 9], [8, 11, 14, 15, 17], [8, 11, 17], [8, 11, 17], [6, 7, 8, 9], [8, 11, 13, 16, 194], [8, 11, 13], [8, 11], [6, 7, 8, 9]] : List (List Nat)).getD i []) false true false false Tryd.f21 = some F57 := by kernel_rfl
theorem tie58 : compF Tryd.prog ids (fun i => ([[0, 1], [0, 1, 10], [4], [0, 1, 5], [0, 1, 5, 14], [0, 1, 5], [0, 1, 5, 25], [4], [4]] : List (List Nat)).getD i []) false false false false Tryd.f22 = some F58 := by kernel_rfl
theorem tie59 : compF Tryd.prog ids (fun i => ([[0], [0, 3], [0, 3, 9, 10], [0, 3, 9, 10, 11], [0, 3, 4, 9, 10], [0, 3, 9, 10], [0, 3, 9, 10], [2]] : List (List Nat)).getD i []) false false false false Tryd.f23 = some F59 := by kernel_rfl
theorem tie60 : compF Tryd.prog ids (fun i => ([[0, 2], [2, 3], [2, 3, 4], [2, 4, 13], [2, 4, 13, 14], [2, 4, 13, 14], [2, 4, 13, 14], [2], [2, 4, 13, 20], [2, 4, 13, 20], [2], [2, 4, 41], [2], [2]] : List (List Nat)).getD i []) false false false false Tryd.f24 = some F60 := by kernel_rfl
theorem tie61 : compF Tryd.prog ids (fun i => ([[0], [3], [2], [2]] : List (List Nat)).getD i []) false false false false Tryd.f25 = some F61 := by kernel_rfl
theorem tie62 : compF Tryd.prog ids (fun i => ([[0, 1], [4]] : List (List Nat)).getD i []) false false false false Tryd.f26 = some F62 := by kernel_rfl
theorem tie63 : compF Tryd.prog ids (fun i => ([[1, 2], [1, 2, 17], [4], [1, 2, 5], [2, 5, 35], [4], [4]] : List (List Nat)).getD i []) false false false false Tryd.f27 = some F63 := by kernel_rfl
theorem tie64 : compF Tryd.prog ids (fun i => ([[0, 1, 6, 7, 9], [0, 1, 6, 7, 9, 11], [0, 1, 6, 7, 9, 11, 12], [0, 1, 6, 7, 9, 11, 12], [0, 1, 6, 7, 9, 11, 12], [0, 1, 6, 7, 9, 11, 12], [0, 1, 6, 7, 9, 11, 12], [8, 9, 10], [0, 1, 6, 7, 9, 11, 25], [0, 1, 6, 7, 9, 11, 25], [0, 1, 6, 7, 9, 11, 25], [0, 1, 6, 7, 9, 11, 25], [0, 1, 6, 7, 9, 11, 25], [0, 1, 6, 7, 9, 11, 25], [0, 1, 6, 7, 9, 11, 25], [8, 9, 10], [0, 1, 6, 7, 9, 11, 41], [0, 1, 6, 7, 9, 41], [8, 9, 10], [8, 9, 10]] : List (List Nat)).getD i []) false false false false Tryd.f28 = some F64 := by kernel_rfl
theorem tie65 : compF Tryd.prog ids (fun i => ([[1], [2]] : List (List Nat)).getD i []) false false false false Tryd.f29 = some F65 := by kernel_rfl
theorem tie66 : compF Tryd.prog ids (fun i => ([[1, 2], [1, 2, 13], [4], [4]] : List (List Nat)).getD i []) false false false false Tryd.f30 = some F66 := by kernel_rfl
theorem tie67 : compF Tryd.prog ids (fun i => ([[0, 3], [0, 3, 25], [4], [0, 5], [0, 5, 6], [5, 62], [4], [5, 80], [4], [4]] : List (List Nat)).getD i []) false false false false Tryd.f31 = some F67 := by kernel_rfl
theorem tie68 : compF Tryd.prog ids (fun i => ([[0], [3], [3, 4], [3, 4], [3, 4], [3, 4], [3, 4], [3, 4], [3, 4], [2], [3, 12], [3, 12], [3, 12], [3, 12], [3, 12], [2], [3, 18], [3, 18], [3, 18], [3, 18], [3, 18], [3, 18], [3, 18], [3, 18], [18], [2], [2]] : List (List Nat)).getD i []) false false false false Tryd.f32 = some F68 := by kernel_rfl
theorem tie1000 : compF Tryd.prog ids (fun i => ([[0, 2, 3, 5], [0, 3, 9], [0, 3, 9, 14], [8], [8]] : List (List Nat)).getD i []) false false false false Tryd.f33 = some F1000 := by kernel_rfl
theorem tie69 : compF Tryd.prog ids (fun i => ([[0, 2, 3, 4, 6], [0, 3, 4, 11], [0, 3, 4, 11, 17], [10], [0, 3, 4, 11, 20], [0, 3, 4, 11], [0, 3, 4, 11, 24], [0, 3, 4, 11], [3, 4, 11, 12], [12], [10]] : List (List Nat)).getD i []) false true false false Tryd.f34 = some F69 := by kernel_rfl
theorem tie70 : compF Tryd.prog ids (fun i => ([[0, 1], [0, 1, 5], [0, 1, 5, 6], [0, 1, 5, 6, 7], [0, 1, 5, 6, 7, 15], [0, 1, 5, 6, 7], [0, 1, 5, 6, 7], [1, 5], [1, 5], [1, 5, 8], [1, 5, 8, 37], [1, 5, 8], [1, 5, 8], [4]] : List (List Nat)).getD i []) false false false false Tryd.f35 = some F70 := by kernel_rfl
theorem tie71 : compF Tryd.prog ids (fun i => ([[0, 1, 2], [1, 2, 7], [1, 2, 7, 8], [6], [1, 2, 7, 14], [6], [1, 2, 7, 20], [6], [1, 2, 7, 26], [1, 2, 29], [6], [6], [1, 2, 7, 34], [6], [1, 2, 7, 39], [6], [1, 2, 7, 45], [6], [1, 2, 51], [6], [6]] : List (List Nat)).getD i []) false false false false Tryd.f36 = some F71 := by kernel_rfl
theorem tie72 : compF Tryd.prog ids (fun i => ([[0], [3], [3, 4], [3, 4], [3, 4], [3, 4], [3, 4], [4], [2], [2]] : List (List Nat)).getD i []) false false false false Tryd.f37 = some F72 := by kernel_rfl
theorem tie73 : compF Tryd.prog ids (fun i => ([[0], [2]] : List (List Nat)).getD i []) false false false false Tryd.f38 = some F73 := by kernel_rfl
theorem tie74 : compF Tryd.prog ids (fun i => ([[0], [2]] : List (List Nat)).getD i []) false false false false Tryd.f39 = some F74 := by kernel_rfl
theorem tie75 : compF Tryd.prog ids (fun i => ([[0], [2]] : List (List Nat)).getD i []) false false false false Tryd.f40 = some F75 := by kernel_rfl
theorem tie76 : compF Tryd.prog ids (fun i => ([[0], [2]] : List (List Nat)).getD i []) false false false false Tryd.f41 = some F76 := by kernel_rfl
theorem tie77 : compF Tryd.prog ids (fun i => ([[0], [2]] : List (List Nat)).getD i []) false false false false Tryd.f42 = some F77 := by kernel_rfl
theorem tie78 : compF Tryd.prog ids (fun i => ([[0, 1, 2], [0, 1, 2, 9], [6], [0, 2, 13], [6], [6]] : List (List Nat)).getD i []) false false false false Tryd.f43 = some F78 := by kernel_rfl
theorem tie79 : compF Tryd.prog ids (fun i => ([[0], [0, 3], [0, 3, 4], [0, 3, 4, 10], [0, 3, 4], [0, 3, 4, 5], [0, 3, 4, 5, 6], [0, 3, 4, 5, 6, 21], [0, 3, 4, 5, 6], [0, 3, 4, 5, 6], [0, 3, 4], [2]] : List (List Nat)).getD i []) false false false false Tryd.f44 = some F79 := by kernel_rfl
theorem tie80 : compF Tryd.prog ids (fun i => ([[0, 1], [5], [4]] : List (List Nat)).getD i []) false false false false Tryd.f45 = some F80 := by kernel_rfl
theorem tie81 : compF Tryd.prog ids (fun i => ([[0], [2]] : List (List Nat)).getD i []) false false false false Tryd.f46 = some F81 := by kernel_rfl
theorem tie82 : compF Tryd.prog ids (fun i => ([[1], [4]] : List (List Nat)).getD i []) false false false false Tryd.f47 = some F82 := by kernel_rfl
theorem tie83 : compF Tryd.prog ids (fun i => ([[0, 1], [4]] : List (List Nat)).getD i []) false false false false Tryd.f48 = some F83 := by kernel_rfl
theorem tie84 : compF Tryd.prog ids (fun i => ([[0], [4]] : List (List Nat)).getD i []) false false false false Tryd.f49 = some F84 := by kernel_rfl
theorem tie85 : compF Tryd.prog ids (fun i => ([[0], [4]] : List (List Nat)).getD i []) false false false false Tryd.f50 = some F85 := by kernel_rfl
theorem tie86 : compF Tryd.prog ids (fun i => ([[0], [4]] : List (List Nat)).getD i []) false false false false Tryd.f51 = some F86 := by kernel_rfl
theorem tie87 : compF Tryd.prog ids (fun i => ([[0, 1], [4]] : List (List Nat)).getD i []) false false false false Tryd.f52 = some F87 := by kernel_rfl
theorem tie88 : compF Tryd.prog ids (fun i => ([[0], [2]] : List (List Nat)).getD i []) false false false false Tryd.f53 = some F88 := by kernel_rfl
theorem tie89 : compF Tryd.prog ids (fun i => ([[0, 1], [4]] : List (List Nat)).getD i []) false false false false Tryd.f54 = some F89 := by kernel_rfl
theorem tie90 : compF Tryd.prog ids (fun i => ([[0, 1], [4]] : List (List Nat)).getD i []) false false false false Tryd.f55 = some F90 := by kernel_rfl
theorem tie91 : compF Tryd.prog ids (fun i => ([[0, 1], [0, 1, 6], [4], [4]] : List (List Nat)).getD i []) false false false false Tryd.f56 = some F91 := by kernel_rfl
theorem tie92 : compF Tryd.prog ids (fun i => ([[0, 1], [4]] : List (List Nat)).getD i []) false false false false Tryd.f57 = some F92 := by kernel_rfl
theorem tie93 : compF Tryd.prog ids (fun i => ([[0], [3], [2], [2]] : List (List Nat)).getD i []) false false false false Tryd.f58 = some F93 := by kernel_rfl
theorem tie94 : compF Tryd.prog ids (fun i => ([[0, 1], [4]] : List (List Nat)).getD i []) false false false false Tryd.f59 = some F94 := by kernel_rfl
theorem tie95 : compF Tryd.prog ids (fun i => ([[0, 1], [4]] : List (List Nat)).getD i []) false false false false Tryd.f60 = some F95 := by kernel_rfl
theorem tie96 : compF Tryd.prog ids (fun i => ([[0], [2]] : List (List Nat)).getD i []) false false false false Tryd.f61 = some F96 := by kernel_rfl
theorem tie97 : compF Tryd.prog ids (fun i => ([[0], [2]] : List (List Nat)).getD i []) false false false false Tryd.f62 = some F97 := by kernel_rfl
theorem tie98 : compF Tryd.prog ids (fun i => ([[0, 5, 7], [7], [6, 7, 8]] : List (List Nat)).getD i []) false false false false Tryd.f63 = some F98 := by kernel_rfl
theorem tie99 : compF Tryd.prog ids (fun i => ([[0, 4, 5, 7], [0, 5, 7, 9], [0, 5, 7, 9, 15], [6, 7, 8], [6, 7, 8]] : List (List Nat)).getD i []) false false false false Tryd.f64 = some F99 := by kernel_rfl
theorem tie100 : compF Tryd.prog ids (fun i => ([[1, 2], [1, 2, 13], [4], [4]] : List (List Nat)).getD i []) false false false false Tryd.f65 = some F100 := by kernel_rfl
theorem tie101 : compF Tryd.prog ids (fun i => ([[0, 4, 5, 7], [0, 5, 7, 9], [0, 5, 7, 9, 15], [7], [6, 7, 8]] : List (List Nat)).getD i []) false false false false Tryd.f66 = some F101 := by kernel_rfl
theorem tie102 : compF Tryd.prog ids (fun i => ([[0, 1], [1, 5], [1, 5, 6], [1, 5, 6], [4], [1, 5, 11], [1, 11], [4], [4]] : List (List Nat)).getD i []) false false false false Tryd.f67 = some F102 := by kernel_rfl
theorem tie103 : compF Tryd.prog ids (fun i => ([[0, 5, 7], [7], [6, 7, 8]] : List (List Nat)).getD i []) false false false false Tryd.f68 = some F103 := by kernel_rfl
theorem tie104 : compF Tryd.prog ids (fun i => ([[0, 5, 7], [0, 5, 7, 11], [7], [6, 7, 8]] : List (List Nat)).getD i []) false false false false Tryd.f69 = some F104 := by kernel_rfl
theorem tie105 : compF Tryd.prog ids (fun i => ([[0, 5, 7], [7, 9, 10], [6, 7, 8]] : List (List Nat)).getD i []) false false false false Tryd.f70 = some F105 := by kernel_rfl
theorem tie106 : compF Tryd.prog ids (fun i => ([[0, 1, 2, 6], [0, 1, 2, 6, 8], [0, 1, 2, 6, 8, 14], [6, 7], [0, 1, 2, 6, 8, 9], [0, 1, 2, 6, 8, 9, 10], [0, 1, 2, 6, 8, 9], [1, 2, 6, 8, 9], [6, 7]] : List (List Nat)).getD i []) false false false false Tryd.f71 = some F106 := by kernel_rfl
theorem tie107 : compF Tryd.prog ids (fun i => ([[7], [6, 7, 8]] : List (List Nat)).getD i []) false false false false Tryd.f72 = some F107 := by kernel_rfl
theorem tie108 : compF Tryd.prog ids (fun i => ([[0, 1, 2], [0, 1, 2, 7], [6], [0, 2, 12], [6], [6]] : List (List Nat)).getD i []) false false false false Tryd.f73 = some F108 := by kernel_rfl
theorem tie109 : compF Tryd.prog ids (fun i => ([[0, 1], [1, 5], [5, 12, 13, 14], [5, 12, 13, 14, 15], [5, 7, 12, 13, 14], [5, 12, 13, 14], [5, 12, 13, 14], [4]] : List (List Nat)).getD i []) false false false false Tryd.f74 = some F109 := by kernel_rfl
theorem tie110 : compF Tryd.prog ids (fun i => ([[0, 1], [0, 1, 5], [0, 1, 5, 8], [5, 6], [], [4]] : List (List Nat)).getD i []) false false false false Tryd.f75 = some F110 := by kernel_rfl
theorem tie111 : compF Tryd.prog ids (fun i => ([[0, 1], [5], [4]] : List (List Nat)).getD i []) false false false false Tryd.f76 = some F111 := by kernel_rfl
theorem tie112 : compF Tryd.prog ids (fun i => ([[1], [2]] : List (List Nat)).getD i []) false false false false Tryd.f77 = some F112 := by kernel_rfl
theorem tie113 : compF Tryd.prog ids (fun i => ([[0, 1, 3], [0, 1, 3, 9], [0, 1, 3], [0, 1, 3, 4], [0, 1, 3, 4, 5], [0, 1, 3, 4, 5, 21], [0, 1, 3, 4, 5], [0, 1, 3, 4, 5], [0, 1, 3, 38]] : List (List Nat)).getD i []) false false false false Tryd.f78 = some F113 := by kernel_rfl
theorem tie114 : compF Tryd.prog ids (fun i => ([[0, 1, 2, 9], [0, 1, 2], []] : List (List Nat)).getD i []) false false false false Tryd.f94 = some F114 := by kernel_rfl
theorem tie115 : compF Tryd.prog ids (fun i => ([[]] : List (List Nat)).getD i []) false false false false Tryd.f99 = some F115 := by kernel_rfl
def fid : Fid := ⟨fidF, fun N c pc => 2 * N ≤ dkey ∧ ∃ K ow d, comp Tryd.prog (ids.with ow d) N K c = some pc, fidT, fun g t nm => ∃ f, methT Tryd.prog t nm = some f ∧ ids.fn f = some g, ids.gl⟩
theorem hid : Ties Tryd.prog ids fid := by
  refine ⟨fun f g h => ?_, fun t u h => ?_, fun _ _ _ => Iff.rfl, fun _ _ h => h⟩
  · simp only [ids, idsF] at h
    split at h <;> first | (cases h; rfl) | cases h
  · simp only [ids, idsT] at h
    split at h <;> first | (cases h; rfl) | cases h
theorem hcr : Codes Tryd.prog ids fid := fun _ _ _ => Iff.rfl
theorem mixed : Tryd.prog.follows .mixedOrders = true := by kernel_rfl
theorem tied : Tied Tryd.prog ids fid prog16 := fun f pf h => by
  unfold prog16 at h
  split at h
  · cases h; exact ⟨Tryd.f3, _, _, _, _, Tryd.func3, tie40⟩
  · cases h; exact ⟨Tryd.f4, _, _, _, _, Tryd.func4, tie41⟩
  · cases h; exact ⟨Tryd.f5, _, _, _, _, Tryd.func5, tie42⟩
  · cases h; exact ⟨Tryd.f6, _, _, _, _, Tryd.func6, tie43⟩
  · cases h; exact ⟨Tryd.f7, _, _, _, _, Tryd.func7, tie44⟩
  · cases h; exact ⟨Tryd.f8, _, _, _, _, Tryd.func8, tie45⟩
  · cases h; exact ⟨Tryd.f9, _, _, _, _, Tryd.func9, tie46⟩
  · cases h; exact ⟨Tryd.f10, _, _, _, _, Tryd.func10, tie47⟩
  · cases h; exact ⟨Tryd.f11, _, _, _, _, Tryd.func11, tie48⟩
  · cases h; exact ⟨Tryd.f12, _, _, _, _, Tryd.func12, tie17⟩
  · cases h; exact ⟨Tryd.f13, _, _, _, _, Tryd.func13, tie49⟩
  · cases h; exact ⟨Tryd.f14, _, _, _, _, Tryd.func14, tie50⟩
  · cases h; exact ⟨Tryd.f15, _, _, _, _, Tryd.func15, tie51⟩
  · cases h; exact ⟨Tryd.f16, _, _, _, _, Tryd.func16, tie52⟩
  · cases h; exact ⟨Tryd.f17, _, _, _, _, Tryd.func17, tie53⟩
  · cases h; exact ⟨Tryd.f18, _, _, _, _, Tryd.func18, tie54⟩
  · cases h; exact ⟨Tryd.f19, _, _, _, _, Tryd.func19, tie55⟩
  · cases h; exact ⟨Tryd.f20, _, _, _, _, Tryd.func20, tie56⟩
  · cases h; exact ⟨Tryd.f21, _, _, _, _, Tryd.func21, tie57⟩
  · cases h; exact ⟨Tryd.f22, _, _, _, _, Tryd.func22, tie58⟩
  · cases h; exact ⟨Tryd.f23, _, _, _, _, Tryd.func23, tie59⟩
  · cases h; exact ⟨Tryd.f24, _, _, _, _, Tryd.func24, tie60⟩
  · cases h; exact ⟨Tryd.f25, _, _, _, _, Tryd.func25, tie61⟩
  · cases h; exact ⟨Tryd.f26, _, _, _, _, Tryd.func26, tie62⟩
  · cases h; exact ⟨Tryd.f27, _, _, _, _, Tryd.func27, tie63⟩
  · cases h; exact ⟨Tryd.f28, _, _, _, _, Tryd.func28, tie64⟩
  · cases h; exact ⟨Tryd.f29, _, _, _, _, Tryd.func29, tie65⟩
  · cases h; exact ⟨Tryd.f30, _, _, _, _, Tryd.func30, tie66⟩
  · cases h; exact ⟨Tryd.f31, _, _, _, _, Tryd.func31, tie67⟩
  · cases h; exact ⟨Tryd.f32, _, _, _, _, Tryd.func32, tie68⟩
  · cases h; exact ⟨Tryd.f33, _, _, _, _, Tryd.func33, tie1000⟩
  · cases h; exact ⟨Tryd.f34, _, _, _, _, Tryd.func34, tie69⟩
  · cases h; exact ⟨Tryd.f35, _, _, _, _, Tryd.func35, tie70⟩
  · cases h; exact ⟨Tryd.f36, _, _, _, _, Tryd.func36, tie71⟩
  · cases h; exact ⟨Tryd.f37, _, _, _, _, Tryd.func37, tie72⟩
  · cases h; exact ⟨Tryd.f38, _, _, _, _, Tryd.func38, tie73⟩
  · cases h; exact ⟨Tryd.f39, _, _, _, _, Tryd.func39, tie74⟩
  · cases h; exact ⟨Tryd.f40, _, _, _, _, Tryd.func40, tie75⟩
  · cases h; exact ⟨Tryd.f41, _, _, _, _, Tryd.func41, tie76⟩
  · cases h; exact ⟨Tryd.f42, _, _, _, _, Tryd.func42, tie77⟩
  · cases h; exact ⟨Tryd.f43, _, _, _, _, Tryd.func43, tie78⟩
  · cases h; exact ⟨Tryd.f44, _, _, _, _, Tryd.func44, tie79⟩
  · cases h; exact ⟨Tryd.f45, _, _, _, _, Tryd.func45, tie80⟩
  · cases h; exact ⟨Tryd.f46, _, _, _, _, Tryd.func46, tie81⟩
  · cases h; exact ⟨Tryd.f47, _, _, _, _, Tryd.func47, tie82⟩
  · cases h; exact ⟨Tryd.f48, _, _, _, _, Tryd.func48, tie83⟩
  · cases h; exact ⟨Tryd.f49, _, _, _, _, Tryd.func49, tie84⟩
  · cases h; exact ⟨Tryd.f50, _, _, _, _, Tryd.func50, tie85⟩
  · cases h; exact ⟨Tryd.f51, _, _, _, _, Tryd.func51, tie86⟩
  · cases h; exact ⟨Tryd.f52, _, _, _, _, Tryd.func52, tie87⟩
  · cases h; exact ⟨Tryd.f53, _, _, _, _, Tryd.func53, tie88⟩
  · cases h; exact ⟨Tryd.f54, _, _, _, _, Tryd.func54, tie89⟩
  · cases h; exact ⟨Tryd.f55, _, _, _, _, Tryd.func55, tie90⟩
  · cases h; exact ⟨Tryd.f56, _, _, _, _, Tryd.func56, tie91⟩
  · cases h; exact ⟨Tryd.f57, _, _, _, _, Tryd.func57, tie92⟩
  · cases h; exact ⟨Tryd.f58, _, _, _, _, Tryd.func58, tie93⟩
  · cases h; exact ⟨Tryd.f59, _, _, _, _, Tryd.func59, tie94⟩
  · cases h; exact ⟨Tryd.f60, _, _, _, _, Tryd.func60, tie95⟩
  · cases h; exact ⟨Tryd.f61, _, _, _, _, Tryd.func61, tie96⟩
  · cases h; exact ⟨Tryd.f62, _, _, _, _, Tryd.func62, tie97⟩
  · cases h; exact ⟨Tryd.f63, _, _, _, _, Tryd.func63, tie98⟩
  · cases h; exact ⟨Tryd.f64, _, _, _, _, Tryd.func64, tie99⟩
  · cases h; exact ⟨Tryd.f65, _, _, _, _, Tryd.func65, tie100⟩
  · cases h; exact ⟨Tryd.f66, _, _, _, _, Tryd.func66, tie101⟩
  · cases h; exact ⟨Tryd.f67, _, _, _, _, Tryd.func67, tie102⟩
  · cases h; exact ⟨Tryd.f68, _, _, _, _, Tryd.func68, tie103⟩
  · cases h; exact ⟨Tryd.f69, _, _, _, _, Tryd.func69, tie104⟩
  · cases h; exact ⟨Tryd.f70, _, _, _, _, Tryd.func70, tie105⟩
  · cases h; exact ⟨Tryd.f71, _, _, _, _, Tryd.func71, tie106⟩
  · cases h; exact ⟨Tryd.f72, _, _, _, _, Tryd.func72, tie107⟩
  · cases h; exact ⟨Tryd.f73, _, _, _, _, Tryd.func73, tie108⟩
  · cases h; exact ⟨Tryd.f74, _, _, _, _, Tryd.func74, tie109⟩
  · cases h; exact ⟨Tryd.f75, _, _, _, _, Tryd.func75, tie110⟩
  · cases h; exact ⟨Tryd.f76, _, _, _, _, Tryd.func76, tie111⟩
  · cases h; exact ⟨Tryd.f77, _, _, _, _, Tryd.func77, tie112⟩
  · cases h; exact ⟨Tryd.f78, _, _, _, _, Tryd.func78, tie113⟩
  · cases h; exact ⟨Tryd.f94, _, _, _, _, Tryd.func94, tie114⟩
  · cases h; exact ⟨Tryd.f99, _, _, _, _, Tryd.func99, tie115⟩
  · cases h
theorem glb {w : World} (h : laidMet Tryd.prog [("arenanet/vm.effects", Rows.laid_arenanet_vm_effects)] w) : GlbAt fid w := fun g cs hg => by
  simp only [fid, ids, idsG] at hg
  split at hg
  · cases hg
    exact ⟨(effRows.flatten.map (Value.int .i64)), glb_of_laid (P := Tryd.prog) (n := "arenanet/vm.effects") (d := Rows.laid_arenanet_vm_effects) (g := 0) (t := 85) (vs := (effRows.flatten.map (Value.int .i64))) (m := 4) (by kernel_rfl) (by kernel_rfl) (by kernel_rfl) (by kernel_rfl) h⟩
  · cases hg
end Go.Proofs.YtemenmjobfmelaaDoor.T
end ST2
