/- The given program, held against the abstract one: function by function, by the kernel. -/
import Derived.Test.YtjdbkncfebebnaaDoorRows
import Derived.Test.YtjdbkncfebebnaaDoorPmY
import Derived.Test.YtjdbkncfebebnaaDoorPmW
import Derived.Test.YtjdbkncfebebnaaDoorPmTb14
import Derived.KernelRfl
set_option linter.unusedSimpArgs false
set_option linter.unusedVariables false
section ST3c
namespace Go.Proofs.YtjdbkncfebebnaaDoor.T
open Go.Pm Go.Pm.F
def idsF : FuncId -> Option Nat := fun f => match f with
 | 3 => some 120
 | 11 => some 17
 | 12 => some 20
 | 13 => some 132
 | 14 => some 131
 | 15 => some 133
 | 16 => some 134
 | 17 => some 127
 | 39 => some 15
 | 40 => some 149
 | 41 => some 150
 | 42 => some 151
 | 43 => some 152
 | 44 => some 153
 | 45 => some 154
 | 46 => some 155
 | 47 => some 147
 | 48 => some 148
 | 49 => some 139
 | 50 => some 140
 | 51 => some 125
 | 52 => some 128
 | 74 => some 32
 | 75 => some 170
 | 76 => some 171
 | 77 => some 172
 | 78 => some 173
 | 79 => some 165
 | 80 => some 166
 | 81 => some 167
 | 82 => some 168
 | 83 => some 169
 | 84 => some 164
 | 85 => some 138
 | 106 => some 38
 | 107 => some 39
 | 108 => some 192
 | 109 => some 193
 | 110 => some 194
 | 111 => some 195
 | 112 => some 196
 | 113 => some 197
 | 114 => some 198
 | 115 => some 199
 | 116 => some 180
 | 117 => some 181
 | 118 => some 182
 | 119 => some 183
 | 120 => some 184
 | 121 => some 185
 | 122 => some 186
 | 123 => some 187
 | 124 => some 188
 | 125 => some 189
 | 126 => some 190
 | 127 => some 191
 | 128 => some 163
 | 143 => some 202
 | 144 => some 203
 | 145 => some 200
 | 146 => some 201
 | 157 => some 204
 | _ => none
def idsT : TypeId -> Option Nat := fun t => match t with
 | 31 => some 1
 | 9 => some 2
 | 5 => some 3
 | 112 => some 4
 | _ => none
def idsG : Nat -> Option (List D) := fun g => match g with
 | 0 => some G_arenanet_compile_effects
 | _ => none
def ids : Ids := ⟨idsF, idsT, idsG, false, false⟩
def fidF : Nat -> FuncId := fun k => match k with
 | 120 => 3
 | 17 => 11
 | 20 => 12
 | 132 => 13
 | 131 => 14
 | 133 => 15
 | 134 => 16
 | 127 => 17
 | 15 => 39
 | 149 => 40
 | 150 => 41
 | 151 => 42
 | 152 => 43
 | 153 => 44
 | 154 => 45
 | 155 => 46
 | 147 => 47
 | 148 => 48
 | 139 => 49
 | 140 => 50
 | 125 => 51
 | 128 => 52
 | 32 => 74
 | 170 => 75
 | 171 => 76
 | 172 => 77
 | 173 => 78
 | 165 => 79
 | 166 => 80
 | 167 => 81
 | 168 => 82
 | 169 => 83
 | 164 => 84
 | 138 => 85
 | 38 => 106
 | 39 => 107
 | 192 => 108
 | 193 => 109
 | 194 => 110
 | 195 => 111
 | 196 => 112
 | 197 => 113
 | 198 => 114
 | 199 => 115
 | 180 => 116
 | 181 => 117
 | 182 => 118
 | 183 => 119
 | 184 => 120
 | 185 => 121
 | 186 => 122
 | 187 => 123
 | 188 => 124
 | 189 => 125
 | 190 => 126
 | 191 => 127
 | 163 => 128
 | 202 => 143
 | 203 => 144
 | 200 => 145
 | 201 => 146
 | 204 => 157
 | _ => 0
def fidT : Nat -> TypeId := fun k => match k with
 | 1 => 31
 | 2 => 9
 | 3 => 5
 | 4 => 112
 | _ => 0

theorem tie120 : compF Tryd.prog ids (fun i => ([[0, 1, 2], [1, 2, 7], [2, 7, 8], [7, 8, 9], [7, 8, 9, 10, 12], [7, 10, 12, 13, 15], [7, 12, 13, 15, 16, 17], [7, 12, 15, 16, 17, 18, 19], [7, 16, 18, 106], [6], [6]] : List (List Nat)).getD i []) false false false false Tryd.f3 = some F120 := by kernel_rfl
theorem tie17 : compF Tryd.prog ids (fun i => ([[0, 1], [0, 1, 6], [0, 1], [4]] : List (List Nat)).getD i []) false false false false Tryd.f11 = some F17 := by kernel_rfl
theorem tie20 : compF Tryd.prog ids (fun i => ([[0], [0, 8], [2], [0, 3], [0, 3, 4], [0, 3, 4, 5], [0, 3, 4, 5, 11], [0, 3, 4, 5], [0, 3, 4, 5, 6], [0, 3, 4, 5, 6, 17], [0, 3, 4, 5, 6], [0, 3, 4, 5], [4, 28], [2], [2]] : List (List Nat)).getD i []) false false false false Tryd.f12 = some F20 := by kernel_rfl
theorem tie132 : compF Tryd.prog ids (fun i => ([[0, 2], [0, 2, 11], [2, 3, 4], [2, 5], [2, 5, 6], [2, 5, 6, 35], [2, 5, 6], [2, 5, 6, 42], [2, 5, 6, 7], [2, 5, 6, 7, 8], [2, 5, 6, 7, 8, 44], [2, 5, 6, 7, 8], [2, 5, 6, 7, 8, 53], [2, 5, 6, 7, 8], [2, 5, 6, 7, 56], [2, 5, 6], [2, 5, 6, 7, 64], [2, 5, 6], [2, 5, 6, 7], [2, 5, 6], [2, 5, 6, 78], [2, 3, 4], [2, 3, 4]] : List (List Nat)).getD i []) false false false false Tryd.f13 = some F132 := by kernel_rfl
theorem tie131 : compF Tryd.prog ids (fun i => ([[1, 2], [1, 2, 4], [1, 2, 4, 17, 18, 19], [1, 2, 4, 17, 18, 19, 20], [1, 2, 4, 5, 6, 17, 18, 19], [1, 2, 4, 17, 18, 19], [1, 2, 4, 17, 18, 19], [2, 4, 33, 34], [2, 4, 33, 34, 35], [2, 4, 7, 8, 33, 34], [2, 4, 7, 8, 33, 34], [2, 4, 7, 8, 33, 34, 45], [2, 4, 8, 33, 34], [2, 4, 33, 34], [2, 4, 33, 34], [2, 4, 33, 34], [2, 4, 73], [2, 3], [2, 9], [2, 9, 86, 87], [2, 9, 86, 87, 88], [2, 9, 11, 86, 87], [2, 9, 86, 87, 98], [2, 3], [2, 9, 86, 87], [2, 3]] : List (List Nat)).getD i []) false false false false Tryd.f14 = some F131 := by kernel_rfl
theorem tie133 : compF Tryd.prog ids (fun i => ([[2, 3], [2, 3, 19], [4], [2, 3, 5], [2, 3, 5, 24], [2, 3, 5], [2, 3, 5, 37], [4], [4]] : List (List Nat)).getD i []) false false false false Tryd.f15 = some F133 := by kernel_rfl
theorem tie134 : compF Tryd.prog ids (fun i => ([[0], [0, 3], [4, 5], [4, 14], [2], [2]] : List (List Nat)).getD i []) false false false false Tryd.f16 = some F134 := by kernel_rfl
theorem tie127 : compF Tryd.prog ids (fun i => ([[], [1, 3], [3, 4, 5], [3, 4, 5, 6], [0]] : List (List Nat)).getD i []) false false false false Tryd.f17 = some F127 := by kernel_rfl
theorem tie15 : compF Tryd.prog ids (fun i => ([[1], [1, 3], [1, 3, 4], [3, 4, 12, 13], [3, 4, 12, 13, 14], [3, 4, 6, 12, 13], [3, 4, 12, 13, 17], [3, 4, 7], [3, 4, 7, 26], [3, 4, 7, 9], [3, 4, 7, 35], [3, 7], [], [3, 4, 12, 13], [2]] : List (List Nat)).getD i []) false false false false Tryd.f39 = some F15 := by kernel_rfl
theorem tie149 : compF Tryd.prog ids (fun i => ([[0], [0, 3], [0, 3, 4], [0, 3, 4, 11], [0, 3, 4, 5], [0, 3, 4, 5], [0, 3, 4], [2]] : List (List Nat)).getD i []) false false false false Tryd.f40 = some F149 := by kernel_rfl
theorem tie150 : compF Tryd.prog ids (fun i => ([[0, 14], [0], [0, 21], []] : List (List Nat)).getD i []) false false false false Tryd.f41 = some F150 := by kernel_rfl
theorem tie151 : compF Tryd.prog ids (fun i => ([[0], [3], [3, 16], [2], [2]] : List (List Nat)).getD i []) false false false false Tryd.f42 = some F151 := by kernel_rfl
theorem tie152 : compF Tryd.prog ids (fun i => ([[], [0]] : List (List Nat)).getD i []) false false false false Tryd.f43 = some F152 := by kernel_rfl
theorem tie153 : compF Tryd.prog ids (fun i => ([[0, 1, 8], [0, 1], [0], [0, 38], []] : List (List Nat)).getD i []) false false false false Tryd.f44 = some F153 := by kernel_rfl
theorem tie154 : compF Tryd.prog ids (fun i => ([[0, 12], []] : List (List Nat)).getD i []) false false false false Tryd.f45 = some F154 := by kernel_rfl
theorem tie155 : compF Tryd.prog ids (fun i => ([[0, 1, 4], [0, 1, 4, 5], [0, 1, 4, 5], [0, 1, 4, 5, 19], [0, 1, 4, 5], [4, 5], [4]] : List (List Nat)).getD i []) false false false false Tryd.f46 = some F155 := by kernel_rfl
theorem tie147 : compF Tryd.prog ids (fun i => ([[0, 3], [0, 3, 5], [], [0, 3, 5, 9], [0, 3, 5, 9], [], [0, 3, 5, 16], [], [0, 3, 5, 27], [0, 3], [], [0, 3, 5, 37], [], [0, 3, 5, 42], [], [0, 3, 47], []] : List (List Nat)).getD i []) false false false false Tryd.f47 = some F147 := by kernel_rfl
theorem tie148 : compF Tryd.prog ids (fun i => ([[0, 1, 2], [0], [6]] : List (List Nat)).getD i []) false true false false Tryd.f48 = some F148 := by kernel_rfl
theorem tie139 : compF Tryd.prog ids (fun i => ([[1, 2, 4], [1, 2, 4, 5], [1, 2, 4, 5, 6], [1, 2, 4, 5, 6], [2, 4, 5, 6, 7], [2, 4, 5, 6, 7, 24], [2, 4, 5, 6, 7, 8], [2, 4, 5, 6, 7, 8], [2, 4, 5, 6, 7, 8, 9], [2, 4, 5, 6, 7, 8, 9, 10], [2, 4, 5, 6, 7, 8, 9, 10, 52], [2, 4, 5, 6, 7, 8, 9, 10], [2, 4, 5, 6, 7, 8, 10], [2, 4, 5, 6, 7, 8, 10], [2, 4, 5, 6, 7, 10, 68, 69, 70], [2, 4, 5, 6, 7, 10, 68, 69, 70, 71], [2, 4, 5, 6, 7, 10, 12, 68, 69, 70], [2, 4, 5, 6, 7, 10, 12, 68, 69, 70, 74], [2, 4, 5, 6, 7, 10, 68, 69, 70], [2, 4, 5, 6, 7, 10, 12, 68, 69, 70, 81], [2, 4, 5, 6, 7, 10, 12, 68, 69, 70], [2, 4, 5, 6, 7, 10, 68, 69, 70], [2, 4, 5, 6, 7, 10, 68, 69, 70, 97], [2, 4, 5, 6, 7, 10, 68, 69, 70], [2, 4, 5, 6, 7, 10, 68, 69, 70], [4]] : List (List Nat)).getD i []) false true false false Tryd.f49 = some F139 := by kernel_rfl
theorem tie140 : compF Tryd.prog ids (fun i => ([[1], [2]] : List (List Nat)).getD i []) false false false false Tryd.f50 = some F140 := by kernel_rfl
theorem tie125 : compF Tryd.prog ids (fun i => ([[1], [1, 14], [2], [1, 16, 17, 18], [1, 16, 17, 18, 19], [1, 4, 16, 17, 18], [1, 16, 17, 18, 27], [2], [1, 16, 17, 18], [1, 30, 31], [1, 30, 31, 32], [1, 6, 30, 31], [1, 30, 31, 42], [2], [1, 30, 31], [1, 7], [1, 7, 45, 46], [1, 7, 45, 46, 47], [1, 7, 9, 45, 46], [1, 7, 9, 45, 46, 50], [1, 7, 10, 45, 46], [1, 7, 10, 45, 46, 55], [2], [1, 7, 45, 46, 58], [1, 7, 45, 46], [1, 7, 45, 46], [2]] : List (List Nat)).getD i []) false false false false Tryd.f51 = some F125 := by kernel_rfl
theorem tie128 : compF Tryd.prog ids (fun i => ([[1, 2], [1, 2, 22], [4], [4]] : List (List Nat)).getD i []) false false false false Tryd.f52 = some F128 := by kernel_rfl
theorem tie32 : compF Tryd.prog ids (fun i => ([[1], [2]] : List (List Nat)).getD i []) false false false false Tryd.f74 = some F32 := by kernel_rfl
theorem tie170 : compF Tryd.prog ids (fun i => ([[0, 1], [0, 1, 8], [0, 1, 12], [0, 1, 22], [0, 1], [0, 1, 40], [0, 1], [4]] : List (List Nat)).getD i []) false false false false Tryd.f75 = some F170 := by kernel_rfl
theorem tie171 : compF Tryd.prog ids (fun i => ([[0, 1, 4], [0, 1, 4, 11], [4], [0, 1, 4, 5], [0, 1, 4, 5, 19], [0, 1, 4, 5, 35], [0, 1, 4, 5], [1, 4, 5, 6], [4, 6, 53], [4, 6], [4], [0, 1, 4, 5, 59], [0, 1, 4, 5, 69], [0, 1, 4, 5], [4, 7], [4, 7, 81], [4, 7], [4], [0, 1, 4, 5, 100], [4], [0, 1, 4, 5, 113], [4], [4]] : List (List Nat)).getD i []) false false false false Tryd.f76 = some F171 := by kernel_rfl
theorem tie172 : compF Tryd.prog ids (fun i => ([[0, 1, 20], [0, 1], []] : List (List Nat)).getD i []) false false false false Tryd.f77 = some F172 := by kernel_rfl
theorem tie173 : compF Tryd.prog ids (fun i => ([[0, 1, 4], [0, 1, 4, 5], [0, 1, 4, 5, 19], [0, 1, 4, 5], [0, 1, 4, 5, 6], [0, 1, 4, 5, 7], [0, 1, 4, 7, 32], [4], [0, 1, 4, 7, 8], [0, 1, 4, 7, 8, 45], [0, 1, 4, 7, 8], [4, 7, 8], [4], [0, 1, 4, 5, 9], [0, 1, 4, 5, 9, 59], [0, 4, 9], [0, 4, 9], [0, 1, 4, 5, 9, 64], [0, 1, 4, 9], [0, 1, 4, 9, 10], [0, 1, 4, 9, 10], [0, 4, 9], [0, 1, 4, 5, 9, 79], [0, 1, 4, 5, 9], [0, 1, 4, 5, 9, 11], [0, 1, 4, 5, 9, 11], [0, 4, 9], [0, 1, 4, 5, 9, 109], [0, 1, 4, 5, 9], [0, 1, 4, 5, 9], [0, 4, 9], [4, 9], [4], [4, 9], [4]] : List (List Nat)).getD i []) false false false false Tryd.f78 = some F173 := by kernel_rfl
theorem tie165 : compF Tryd.prog ids (fun i => ([[0, 2, 4], [0, 2, 4, 10], []] : List (List Nat)).getD i []) false false false false Tryd.f79 = some F165 := by kernel_rfl
theorem tie166 : compF Tryd.prog ids (fun i => ([[0, 3], [0, 5], [], [0, 5, 8], [], [0, 12], []] : List (List Nat)).getD i []) false false false false Tryd.f80 = some F166 := by kernel_rfl
theorem tie167 : compF Tryd.prog ids (fun i => ([[0, 3], [0, 3], [0, 9], [], []] : List (List Nat)).getD i []) false false false false Tryd.f81 = some F167 := by kernel_rfl
theorem tie168 : compF Tryd.prog ids (fun i => ([[2, 3], [2, 3, 5], [2, 3], [2, 3], [], [2, 3, 5, 17], [], [2, 3, 5, 24], [], [2, 3, 5, 31], [2, 3, 5, 31], [2, 3], [2, 3], [], [2, 3, 45], [2, 3], [2], [2], []] : List (List Nat)).getD i []) false false false false Tryd.f82 = some F168 := by kernel_rfl
theorem tie169 : compF Tryd.prog ids (fun i => ([[2, 3], [2, 3, 6], [2, 3, 6, 7], [2, 3], [], [2, 3, 6, 21], [2, 3], [2, 3], [], [2, 3, 6, 34], [], [2, 3, 6, 41], [], [2, 3, 6, 46], [2, 3], [2], [], [2, 3, 6, 56], [], [2, 3, 60], [2, 3, 64, 65], [2, 3, 64, 65, 66], [2, 3, 4, 64, 65], [2, 3, 64, 65], [2, 3, 64, 65]] : List (List Nat)).getD i []) false false false false Tryd.f83 = some F169 := by kernel_rfl
theorem tie164 : compF Tryd.prog ids (fun i => ([[1, 2], [1, 5], [1, 5, 12], [1, 5, 12, 13], [4], [1, 5, 12, 15], [4], [1, 5, 20], [4], [4]] : List (List Nat)).getD i []) false false false false Tryd.f84 = some F164 := by kernel_rfl
theorem tie138 : compF Tryd.prog ids (fun i => ([[1, 2], [1, 2, 10], [4], [1, 2, 5, 6], [1, 2, 5, 6, 12], [1, 2, 5, 6, 12, 13], [2, 5, 6], [1, 2, 5, 6, 12, 15], [1, 2, 5, 6, 12, 15], [2, 5, 6], [1, 2, 5, 6, 12, 18], [2, 5, 6], [1, 2, 5, 6, 12, 20], [2, 5, 6], [1, 2, 5, 6, 12, 22], [1, 2, 5, 6, 22], [2, 5, 6], [4]] : List (List Nat)).getD i []) false false false false Tryd.f85 = some F138 := by kernel_rfl
theorem tie38 : compF Tryd.prog ids (fun i => ([[]] : List (List Nat)).getD i []) false false false false Tryd.f106 = some F38 := by kernel_rfl
theorem tie39 : compF Tryd.prog ids (fun i => ([[1, 2], [1, 2, 10], [4], [1, 12, 13, 14], [1, 12, 13, 14, 15], [1, 6, 12, 13, 14], [1, 12, 13, 14, 21], [4], [1, 12, 13, 14], [4]] : List (List Nat)).getD i []) false false false false Tryd.f107 = some F39 := by kernel_rfl
theorem tie192 : compF Tryd.prog ids (fun i => ([[0], [2]] : List (List Nat)).getD i []) false false false false Tryd.f108 = some F192 := by kernel_rfl
theorem tie193 : compF Tryd.prog ids (fun i => ([[0], [2]] : List (List Nat)).getD i []) false false false false Tryd.f109 = some F193 := by kernel_rfl
theorem tie194 : compF Tryd.prog ids (fun i => ([[0], [2]] : List (List Nat)).getD i []) false false false false Tryd.f110 = some F194 := by kernel_rfl
theorem tie195 : compF Tryd.prog ids (fun i => ([[0], [0, 3], [0, 3, 4], [0, 3, 4, 8], [0, 3, 4], [0, 3, 4], [0, 3, 4, 20], [2], [2]] : List (List Nat)).getD i []) false false false false Tryd.f111 = some F195 := by kernel_rfl
theorem tie196 : compF Tryd.prog ids (fun i => ([[0, 1], [0, 1, 5], [0, 1, 5, 9], [0, 1, 5], [0, 1, 5, 17], [4], [4]] : List (List Nat)).getD i []) false false false false Tryd.f112 = some F196 := by kernel_rfl
theorem tie197 : compF Tryd.prog ids (fun i => ([[0, 1, 2, 6], [0, 1, 2, 6, 15], [6], [0, 1, 2, 6, 7], [0, 1, 2, 6, 7, 24], [6], [0, 1, 2, 6, 7, 30], [6], [0, 1, 2, 6, 7, 39], [6], [0, 1, 2, 6, 7, 45], [6], [0, 1, 2, 6, 7, 50], [6], [0, 1, 6, 7, 56], [0, 1, 6], [0, 6, 8], [6, 8], [6], [0, 1, 6, 7, 73], [6], [6], [0, 1, 6, 7, 79], [6, 7], [6], [0, 1, 6, 7, 90], [6, 7], [6, 7, 9], [6, 9, 94], [6, 9], [6], [0, 1, 6, 7, 106], [6, 7], [6], [0, 1, 6, 7, 112], [0, 1, 6, 7], [6, 7, 10], [6], [0, 6, 7, 129], [6, 7], [6], [6], [6]] : List (List Nat)).getD i []) false false false false Tryd.f113 = some F197 := by kernel_rfl
theorem tie198 : compF Tryd.prog ids (fun i => ([[0], [2]] : List (List Nat)).getD i []) false false false false Tryd.f114 = some F198 := by kernel_rfl
theorem tie199 : compF Tryd.prog ids (fun i => ([[0, 1, 4], [0, 1, 4], [0, 4, 5], [4, 5], [4]] : List (List Nat)).getD i []) false false false false Tryd.f115 = some F199 := by kernel_rfl
theorem tie180 : compF Tryd.prog ids (fun i => ([[0, 2, 3], [3], []] : List (List Nat)).getD i []) false false true false Tryd.f116 = some F180 := by kernel_rfl
theorem tie181 : compF Tryd.prog ids (fun i => ([[]] : List (List Nat)).getD i []) false false false false Tryd.f117 = some F181 := by kernel_rfl
theorem tie182 : compF Tryd.prog ids (fun i => ([[]] : List (List Nat)).getD i []) false false false false Tryd.f118 = some F182 := by kernel_rfl
theorem tie183 : compF Tryd.prog ids (fun i => ([[]] : List (List Nat)).getD i []) false false false false Tryd.f119 = some F183 := by kernel_rfl
theorem tie184 : compF Tryd.prog ids (fun i => ([[]] : List (List Nat)).getD i []) false false false false Tryd.f120 = some F184 := by kernel_rfl
theorem tie185 : compF Tryd.prog ids (fun i => ([[]] : List (List Nat)).getD i []) false false false false Tryd.f121 = some F185 := by kernel_rfl
theorem tie186 : compF Tryd.prog ids (fun i => ([[]] : List (List Nat)).getD i []) false false false false Tryd.f122 = some F186 := by kernel_rfl
theorem tie187 : compF Tryd.prog ids (fun i => ([[0], [3], [3, 4], [2], [3, 6], [2], [3, 8], [2], [3, 10], [2], [3, 12], [3, 12], [2], [3, 15], [15], [2], [2]] : List (List Nat)).getD i []) false false false false Tryd.f123 = some F187 := by kernel_rfl
theorem tie188 : compF Tryd.prog ids (fun i => ([[]] : List (List Nat)).getD i []) false false false false Tryd.f124 = some F188 := by kernel_rfl
theorem tie189 : compF Tryd.prog ids (fun i => ([[]] : List (List Nat)).getD i []) false false false false Tryd.f125 = some F189 := by kernel_rfl
theorem tie190 : compF Tryd.prog ids (fun i => ([[]] : List (List Nat)).getD i []) false false false false Tryd.f126 = some F190 := by kernel_rfl
theorem tie191 : compF Tryd.prog ids (fun i => ([[0, 3], [0, 3, 4], [0, 3, 4], [0, 3, 4], [0, 4], []] : List (List Nat)).getD i []) false false true false Tryd.f127 = some F191 := by kernel_rfl
theorem tie163 : compF Tryd.prog ids (fun i => ([[0], [2]] : List (List Nat)).getD i []) false false false false Tryd.f128 = some F163 := by kernel_rfl
theorem tie202 : compF Tryd.prog ids (fun i => ([[0, 1, 2, 3, 8], [0, 1, 2, 3, 8], [1, 8, 9], [8]] : List (List Nat)).getD i []) false false false false Tryd.f143 = some F202 := by kernel_rfl
theorem tie203 : compF Tryd.prog ids (fun i => ([[0, 1, 2, 6], [0, 1, 2, 6, 7], [0, 1, 2, 6, 7, 8], [0, 1, 2, 6, 7, 8, 35], [0, 1, 2, 6, 7, 8, 9], [0, 1, 2, 6, 7, 8, 9], [0, 1, 2, 6, 7, 8, 9, 10], [0, 1, 2, 6, 7, 8], [0, 1, 2, 6, 7, 8, 51], [6]] : List (List Nat)).getD i []) false false false false Tryd.f144 = some F203 := by kernel_rfl
theorem tie200 : compF Tryd.prog ids (fun i => ([[0, 1], [0, 1, 5], [0, 1], [0], [4]] : List (List Nat)).getD i []) false false true false Tryd.f145 = some F200 := by kernel_rfl
theorem tie201 : compF Tryd.prog ids (fun i => ([[1, 2], [2, 5], [4]] : List (List Nat)).getD i []) false false false false Tryd.f146 = some F201 := by kernel_rfl
theorem tie204 : compF Tryd.prog ids (fun i => ([[]] : List (List Nat)).getD i []) false true false false Tryd.f157 = some F204 := by kernel_rfl
def fid : Fid := ⟨fidF, fun N c pc => 2 * N <= dkey /\ ∃ K ow d, comp Tryd.prog (ids.with ow d) N K c = some pc, fidT, fun g t nm => ∃ f, methT Tryd.prog t nm = some f /\ ids.fn f = some g, ids.gl⟩
theorem hid : Ties Tryd.prog ids fid := by
 refine ⟨fun f g h => ?_, fun t u h => ?_, fun _ _ _ => Iff.rfl, fun _ _ h => h⟩
 · simp only [ids, idsF] at h
   split at h <;> first | (cases h; rfl) | cases h
 · simp only [ids, idsT] at h
   first | cases h | (split at h <;> first | (cases h; rfl) | cases h)
theorem hcr : Codes Tryd.prog ids fid := fun _ _ _ => Iff.rfl
theorem mixed : Tryd.prog.follows .mixedOrders = true := by kernel_rfl
theorem tied : Tied Tryd.prog ids fid prog13d := fun f pf h => by
 unfold prog13d at h
 split at h
 · cases h; exact ⟨Tryd.f39, _, _, _, _, Tryd.func39, tie15⟩
 · cases h; exact ⟨Tryd.f11, _, _, _, _, Tryd.func11, tie17⟩
 · cases h; exact ⟨Tryd.f12, _, _, _, _, Tryd.func12, tie20⟩
 · cases h; exact ⟨Tryd.f74, _, _, _, _, Tryd.func74, tie32⟩
 · cases h; exact ⟨Tryd.f106, _, _, _, _, Tryd.func106, tie38⟩
 · cases h; exact ⟨Tryd.f107, _, _, _, _, Tryd.func107, tie39⟩
 · cases h; exact ⟨Tryd.f3, _, _, _, _, Tryd.func3, tie120⟩
 · cases h; exact ⟨Tryd.f51, _, _, _, _, Tryd.func51, tie125⟩
 · cases h; exact ⟨Tryd.f17, _, _, _, _, Tryd.func17, tie127⟩
 · cases h; exact ⟨Tryd.f52, _, _, _, _, Tryd.func52, tie128⟩
 · cases h; exact ⟨Tryd.f14, _, _, _, _, Tryd.func14, tie131⟩
 · cases h; exact ⟨Tryd.f13, _, _, _, _, Tryd.func13, tie132⟩
 · cases h; exact ⟨Tryd.f15, _, _, _, _, Tryd.func15, tie133⟩
 · cases h; exact ⟨Tryd.f16, _, _, _, _, Tryd.func16, tie134⟩
 · cases h; exact ⟨Tryd.f85, _, _, _, _, Tryd.func85, tie138⟩
 · cases h; exact ⟨Tryd.f49, _, _, _, _, Tryd.func49, tie139⟩
 · cases h; exact ⟨Tryd.f50, _, _, _, _, Tryd.func50, tie140⟩
 · cases h; exact ⟨Tryd.f47, _, _, _, _, Tryd.func47, tie147⟩
 · cases h; exact ⟨Tryd.f48, _, _, _, _, Tryd.func48, tie148⟩
 · cases h; exact ⟨Tryd.f40, _, _, _, _, Tryd.func40, tie149⟩
 · cases h; exact ⟨Tryd.f41, _, _, _, _, Tryd.func41, tie150⟩
 · cases h; exact ⟨Tryd.f42, _, _, _, _, Tryd.func42, tie151⟩
 · cases h; exact ⟨Tryd.f43, _, _, _, _, Tryd.func43, tie152⟩
 · cases h; exact ⟨Tryd.f44, _, _, _, _, Tryd.func44, tie153⟩
 · cases h; exact ⟨Tryd.f45, _, _, _, _, Tryd.func45, tie154⟩
 · cases h; exact ⟨Tryd.f46, _, _, _, _, Tryd.func46, tie155⟩
 · cases h; exact ⟨Tryd.f128, _, _, _, _, Tryd.func128, tie163⟩
 · cases h; exact ⟨Tryd.f84, _, _, _, _, Tryd.func84, tie164⟩
 · cases h; exact ⟨Tryd.f79, _, _, _, _, Tryd.func79, tie165⟩
 · cases h; exact ⟨Tryd.f80, _, _, _, _, Tryd.func80, tie166⟩
 · cases h; exact ⟨Tryd.f81, _, _, _, _, Tryd.func81, tie167⟩
 · cases h; exact ⟨Tryd.f82, _, _, _, _, Tryd.func82, tie168⟩
 · cases h; exact ⟨Tryd.f83, _, _, _, _, Tryd.func83, tie169⟩
 · cases h; exact ⟨Tryd.f75, _, _, _, _, Tryd.func75, tie170⟩
 · cases h; exact ⟨Tryd.f76, _, _, _, _, Tryd.func76, tie171⟩
 · cases h; exact ⟨Tryd.f77, _, _, _, _, Tryd.func77, tie172⟩
 · cases h; exact ⟨Tryd.f78, _, _, _, _, Tryd.func78, tie173⟩
 · cases h; exact ⟨Tryd.f116, _, _, _, _, Tryd.func116, tie180⟩
 · cases h; exact ⟨Tryd.f117, _, _, _, _, Tryd.func117, tie181⟩
 · cases h; exact ⟨Tryd.f118, _, _, _, _, Tryd.func118, tie182⟩
 · cases h; exact ⟨Tryd.f119, _, _, _, _, Tryd.func119, tie183⟩
 · cases h; exact ⟨Tryd.f120, _, _, _, _, Tryd.func120, tie184⟩
 · cases h; exact ⟨Tryd.f121, _, _, _, _, Tryd.func121, tie185⟩
 · cases h; exact ⟨Tryd.f122, _, _, _, _, Tryd.func122, tie186⟩
 · cases h; exact ⟨Tryd.f123, _, _, _, _, Tryd.func123, tie187⟩
 · cases h; exact ⟨Tryd.f124, _, _, _, _, Tryd.func124, tie188⟩
 · cases h; exact ⟨Tryd.f125, _, _, _, _, Tryd.func125, tie189⟩
 · cases h; exact ⟨Tryd.f126, _, _, _, _, Tryd.func126, tie190⟩
 · cases h; exact ⟨Tryd.f127, _, _, _, _, Tryd.func127, tie191⟩
 · cases h; exact ⟨Tryd.f108, _, _, _, _, Tryd.func108, tie192⟩
 · cases h; exact ⟨Tryd.f109, _, _, _, _, Tryd.func109, tie193⟩
 · cases h; exact ⟨Tryd.f110, _, _, _, _, Tryd.func110, tie194⟩
 · cases h; exact ⟨Tryd.f111, _, _, _, _, Tryd.func111, tie195⟩
 · cases h; exact ⟨Tryd.f112, _, _, _, _, Tryd.func112, tie196⟩
 · cases h; exact ⟨Tryd.f113, _, _, _, _, Tryd.func113, tie197⟩
 · cases h; exact ⟨Tryd.f114, _, _, _, _, Tryd.func114, tie198⟩
 · cases h; exact ⟨Tryd.f115, _, _, _, _, Tryd.func115, tie199⟩
 · cases h; exact ⟨Tryd.f145, _, _, _, _, Tryd.func145, tie200⟩
 · cases h; exact ⟨Tryd.f146, _, _, _, _, Tryd.func146, tie201⟩
 · cases h; exact ⟨Tryd.f143, _, _, _, _, Tryd.func143, tie202⟩
 · cases h; exact ⟨Tryd.f144, _, _, _, _, Tryd.func144, tie203⟩
 · cases h; exact ⟨Tryd.f157, _, _, _, _, Tryd.func157, tie204⟩
 · cases h
theorem glb {w : World} (h : laidMet Tryd.prog [("arenanet/compile.effects", Rows.laid_arenanet_compile_effects)] w) : GlbAt fid w := fun g cs hg => by
 simp only [fid, ids, idsG] at hg
 split at hg
 · cases hg
   exact ⟨(effRows15.flatten.map (Value.int .i64)), glb_of_laid (P := Tryd.prog) (n := "arenanet/compile.effects") (d := Rows.laid_arenanet_compile_effects) (g := 0) (t := 141) (vs := (effRows15.flatten.map (Value.int .i64))) (m := 4) (by kernel_rfl) (by kernel_rfl) (by kernel_rfl) (by kernel_rfl) h⟩
 · cases hg
end Go.Proofs.YtjdbkncfebebnaaDoor.T
end ST3c
