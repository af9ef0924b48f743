/- The given program, held against the abstract one: function by function, by the kernel. -/
import Derived.Test.YtlbibgdenkleiaaDoorRows
import Derived.Test.YtlbibgdenkleiaaDoorPmY
import Derived.Test.YtlbibgdenkleiaaDoorPmW2
import Derived.Test.YtlbibgdenkleiaaDoorPmTb15
import Derived.KernelRfl
set_option linter.unusedSimpArgs false
set_option linter.unusedVariables false
section ST3
namespace Go.Proofs.YtlbibgdenkleiaaDoor.T
open Go.Pm Go.Pm.F
def idsF : FuncId → Option Nat := fun f => match f with
  | 3 => some 116
  | 4 => some 117
  | 5 => some 118
  | 6 => some 119
  | 7 => some 120
  | 8 => some 121
  | 9 => some 122
  | 10 => some 123
  | 11 => some 124
  | 12 => some 125
  | 13 => some 126
  | 14 => some 127
  | 15 => some 17
  | 16 => some 128
  | 17 => some 129
  | 18 => some 130
  | 19 => some 131
  | 20 => some 20
  | 21 => some 132
  | 22 => some 133
  | 23 => some 134
  | 24 => some 16
  | 25 => some 135
  | 26 => some 23
  | 27 => some 136
  | 28 => some 137
  | 29 => some 138
  | 30 => some 139
  | 31 => some 140
  | 32 => some 141
  | 33 => some 142
  | 34 => some 143
  | 35 => some 144
  | 36 => some 145
  | 37 => some 146
  | 38 => some 15
  | 39 => some 147
  | 40 => some 148
  | 41 => some 149
  | 42 => some 150
  | 43 => some 151
  | 44 => some 152
  | 45 => some 153
  | 46 => some 154
  | 47 => some 155
  | 48 => some 33
  | 49 => some 156
  | 50 => some 157
  | 51 => some 158
  | 52 => some 159
  | 53 => some 160
  | 54 => some 161
  | 55 => some 162
  | 56 => some 163
  | 57 => some 164
  | 58 => some 32
  | 59 => some 165
  | 60 => some 166
  | 61 => some 167
  | 62 => some 168
  | 63 => some 169
  | 64 => some 170
  | 65 => some 171
  | 66 => some 172
  | 67 => some 173
  | 68 => some 28
  | 69 => some 174
  | 70 => some 175
  | 71 => some 176
  | 72 => some 177
  | 73 => some 178
  | 74 => some 179
  | 75 => some 38
  | 76 => some 39
  | 77 => some 180
  | 78 => some 181
  | 79 => some 182
  | 80 => some 183
  | 81 => some 184
  | 82 => some 185
  | 83 => some 186
  | 84 => some 187
  | 85 => some 188
  | 86 => some 189
  | 87 => some 190
  | 88 => some 191
  | 89 => some 192
  | 90 => some 193
  | 91 => some 194
  | 92 => some 195
  | 93 => some 196
  | 94 => some 197
  | 95 => some 198
  | 96 => some 199
  | 97 => some 200
  | 98 => some 201
  | 99 => some 202
  | 100 => some 203
  | 101 => some 204
  | 122 => some 115
  | _ => none
def idsT : TypeId → Option Nat := fun t => match t with
  | _ => none
def idsG : Nat → Option (List D) := fun g => match g with
  | 0 => some G_arenanet_compile_effects
  | _ => none
def ids : Ids := ⟨idsF, idsT, idsG, false, false⟩
def fidF : Nat → FuncId := fun k => match k with
  | 116 => 3
  | 117 => 4
  | 118 => 5
  | 119 => 6
  | 120 => 7
  | 121 => 8
  | 122 => 9
  | 123 => 10
  | 124 => 11
  | 125 => 12
  | 126 => 13
  | 127 => 14
  | 17 => 15
  | 128 => 16
  | 129 => 17
  | 130 => 18
  | 131 => 19
  | 20 => 20
  | 132 => 21
  | 133 => 22
  | 134 => 23
  | 16 => 24
  | 135 => 25
  | 23 => 26
  | 136 => 27
  | 137 => 28
  | 138 => 29
  | 139 => 30
  | 140 => 31
  | 141 => 32
  | 142 => 33
  | 143 => 34
  | 144 => 35
  | 145 => 36
  | 146 => 37
  | 15 => 38
  | 147 => 39
  | 148 => 40
  | 149 => 41
  | 150 => 42
  | 151 => 43
  | 152 => 44
  | 153 => 45
  | 154 => 46
  | 155 => 47
  | 33 => 48
  | 156 => 49
  | 157 => 50
  | 158 => 51
  | 159 => 52
  | 160 => 53
  | 161 => 54
  | 162 => 55
  | 163 => 56
  | 164 => 57
  | 32 => 58
  | 165 => 59
  | 166 => 60
  | 167 => 61
  | 168 => 62
  | 169 => 63
  | 170 => 64
  | 171 => 65
  | 172 => 66
  | 173 => 67
  | 28 => 68
  | 174 => 69
  | 175 => 70
  | 176 => 71
  | 177 => 72
  | 178 => 73
  | 179 => 74
  | 38 => 75
  | 39 => 76
  | 180 => 77
  | 181 => 78
  | 182 => 79
  | 183 => 80
  | 184 => 81
  | 185 => 82
  | 186 => 83
  | 187 => 84
  | 188 => 85
  | 189 => 86
  | 190 => 87
  | 191 => 88
  | 192 => 89
  | 193 => 90
  | 194 => 91
  | 195 => 92
  | 196 => 93
  | 197 => 94
  | 198 => 95
  | 199 => 96
  | 200 => 97
  | 201 => 98
  | 202 => 99
  | 203 => 100
  | 204 => 101
  | 115 => 122
  | _ => 0
def fidT : Nat → TypeId := fun k => match k with
  | _ => 0

theorem tie116 : compF Tryd.prog ids (fun i => ([[0, 1, 2, 3], [1, 2, 3, 9], [2, 3, 9, 10], [12], [12, 13], [12, 13, 34], [12, 13], [12, 13, 47], [8], [8]] : List (List Nat)).getD i []) false false false false Tryd.f3 = some F116 := by kernel_rfl
theorem tie117 : compF Tryd.prog ids (fun i => ([[1, 2, 3], [1, 2, 3, 7], [1, 3, 7, 8], [1, 9], [1, 9, 10], [1, 9, 10, 31], [1, 9, 10], [1, 9, 10, 11], [1, 9, 10, 11, 48], [6], [1, 9, 10, 11], [1, 9, 10, 56], [6], [6]] : List (List Nat)).getD i []) false false false false Tryd.f4 = some F117 := by kernel_rfl
theorem tie118 : compF Tryd.prog ids (fun i => ([[0, 1, 2], [0, 2, 7], [2, 9], [2, 9, 10], [2, 9, 10, 23], [2, 9, 10], [2, 9, 10, 31], [2, 9, 10, 11], [2, 9, 10, 11, 33], [2, 9, 10, 11], [2, 9, 10, 11, 48], [6], [2, 9, 10, 61], [6], [6]] : List (List Nat)).getD i []) false false false false Tryd.f5 = some F118 := by kernel_rfl
theorem tie119 : compF Tryd.prog ids (fun i => ([[0, 1], [1, 5], [5, 6], [5, 6, 7], [5, 6, 7, 8], [5, 6, 7, 8, 21], [5, 6, 7, 8], [5, 6, 7, 8], [5, 6, 7], [5, 6, 9], [5, 6, 10, 11], [6, 10, 11, 12], [6, 10, 11, 12, 60], [4], [6, 10, 11, 12, 73], [4], [4]] : List (List Nat)).getD i []) false false false false Tryd.f6 = some F119 := by kernel_rfl
theorem tie120 : compF Tryd.prog ids (fun i => ([[0, 1, 2], [1, 2, 7], [2, 7, 8], [7, 8, 9], [7, 8, 9, 10, 12], [7, 10, 12, 13, 15], [7, 12, 13, 15, 16, 17], [7, 12, 15, 16, 17, 18, 19], [7, 16, 18, 106], [6], [6]] : List (List Nat)).getD i []) false false false false Tryd.f7 = some F120 := by kernel_rfl
theorem tie121 : compF Tryd.prog ids (fun i => ([[0, 2], [0, 2, 3], [0, 2, 3, 4], [0, 2, 3, 4, 18], [0, 2, 3, 4], [0, 2, 3, 4, 5], [0, 2, 3, 4, 5, 6], [0, 2, 3, 4, 5, 6, 31], [0, 2, 3, 4, 5, 6, 31, 32], [0, 2, 3, 4, 5, 6, 31, 32], [0, 2, 3, 4, 5, 6, 31, 32], [0, 2, 3, 4, 5, 6, 31, 32], [0, 2, 3, 4, 5, 6, 31, 32], [0, 2, 3, 4, 5, 6], [0, 2, 3, 4, 5, 6, 31, 42], [0, 2, 3, 4, 5, 6, 42], [0, 2, 3, 4, 5, 6], [0, 2, 3, 4, 5, 6, 55], [0, 2, 3, 4, 5, 6], [0, 2, 3, 4, 5, 6, 64], [0, 2, 3, 4, 6], [0, 2, 3, 4], [0, 2, 3, 7], [0, 2, 3, 7, 82], [0, 2, 3, 7], [0, 2, 3, 7, 8], [0, 2, 3, 7, 8], [0, 2, 3, 7, 106], [0, 2, 3, 7], [2]] : List (List Nat)).getD i []) false false false false Tryd.f8 = some F121 := by kernel_rfl
theorem tie122 : compF Tryd.prog ids (fun i => ([[1, 2], [1, 2, 4], [1, 2, 4, 5], [1, 2, 4, 5, 6], [1, 2, 4, 5, 6, 13], [1, 2, 4, 5, 6], [1, 2, 4, 5, 6, 21], [1, 2, 4, 5, 6], [1, 2, 4, 5, 6], [1, 2, 4, 5, 6], [2, 5, 50], [2, 3], [2, 5, 7], [2, 5, 7, 53], [2, 5, 7], [2, 5, 7, 59], [2, 3], [2, 3]] : List (List Nat)).getD i []) false false false false Tryd.f9 = some F122 := by kernel_rfl
theorem tie123 : compF Tryd.prog ids (fun i => ([[0, 2], [2, 3], [2, 3, 4], [2, 3, 4, 5], [2, 3, 4, 5, 11], [2, 3, 4, 5], [2, 3, 4, 5, 16], [2, 3, 4, 5], [2]] : List (List Nat)).getD i []) false false false false Tryd.f10 = some F123 := by kernel_rfl
theorem tie124 : compF Tryd.prog ids (fun i => ([[1, 2, 3, 6], [1, 2, 3, 6], [1, 3, 6, 7], [1, 3, 6, 7, 24], [3, 6], [6], [1, 3, 6, 7, 8], [3, 6, 7, 8, 45], [3, 6], [3, 6, 7, 8, 45, 51], [3, 6, 7, 8, 45, 51], [3, 6, 7, 8, 45, 51], [3, 6, 7, 8, 45, 51], [3, 6], [3, 6, 7, 8, 45, 68], [3, 6, 7, 8, 45, 68], [3, 6], [3, 6, 7, 8, 78], [3, 6], [6]] : List (List Nat)).getD i []) false true false false Tryd.f11 = some F124 := by kernel_rfl
theorem tie125 : compF Tryd.prog ids (fun i => ([[1], [1, 14], [2], [1, 16, 17, 18], [1, 16, 17, 18, 19], [1, 4, 16, 17, 18], [1, 16, 17, 18, 27], [2], [1, 16, 17, 18], [1, 30, 31], [1, 30, 31, 32], [1, 6, 30, 31], [1, 30, 31, 42], [2], [1, 30, 31], [1, 7], [1, 7, 45, 46], [1, 7, 45, 46, 47], [1, 7, 9, 45, 46], [1, 7, 9, 45, 46, 50], [1, 7, 10, 45, 46], [1, 7, 10, 45, 46, 55], [2], [1, 7, 45, 46, 58], [1, 7, 45, 46], [1, 7, 45, 46], [2]] : List (List Nat)).getD i []) false false false false Tryd.f12 = some F125 := by kernel_rfl
theorem tie126 : compF Tryd.prog ids (fun i => ([[1], [1, 3], [1, 3, 15], [2], [1, 3, 4], [1, 3, 4, 18], [1, 3, 4], [1, 3, 4, 5], [1, 3, 4, 29], [2], [1, 3, 6], [1, 3, 6, 31], [1, 3, 6], [1, 3, 6, 46], [2], [1, 3, 7], [1, 3, 7, 8], [1, 3, 7, 8, 48], [1, 3, 7, 8], [1, 3, 7, 8, 9, 10], [1, 3, 7, 8, 10, 84], [2], [1, 3, 7, 8, 92], [1, 3, 7, 8], [2]] : List (List Nat)).getD i []) false false false false Tryd.f13 = some F126 := by kernel_rfl
theorem tie127 : compF Tryd.prog ids (fun i => ([[], [1, 3], [3, 4, 5], [3, 4, 5, 6], [0]] : List (List Nat)).getD i []) false false false false Tryd.f14 = some F127 := by kernel_rfl
theorem tie17 : compF Tryd.prog ids (fun i => ([[0, 1], [0, 1, 6], [0, 1], [4]] : List (List Nat)).getD i []) false false false false Tryd.f15 = some F17 := by kernel_rfl
theorem tie128 : compF Tryd.prog ids (fun i => ([[1, 2], [1, 2, 22], [4], [4]] : List (List Nat)).getD i []) false false false false Tryd.f16 = some F128 := by kernel_rfl
theorem tie129 : compF Tryd.prog ids (fun i => ([[1, 2], [1, 2, 15], [4], [2, 5], [2, 5, 7], [2, 5, 7, 8], [2, 5, 7, 8, 28], [2, 5, 7, 8], [2, 5, 7, 8, 35], [2, 5, 7, 8, 9], [2, 5, 7, 8], [4]] : List (List Nat)).getD i []) false false false false Tryd.f17 = some F129 := by kernel_rfl
theorem tie130 : compF Tryd.prog ids (fun i => ([[0, 2], [0, 2, 3], [0, 2, 3, 4], [0, 2, 3, 4, 9], [0, 2, 3, 4], [0, 2, 3, 4], [2]] : List (List Nat)).getD i []) false false false false Tryd.f18 = some F130 := by kernel_rfl
theorem tie131 : compF Tryd.prog ids (fun i => ([[1, 2], [1, 2, 4], [1, 2, 4, 17, 18, 19], [1, 2, 4, 17, 18, 19, 20], [1, 2, 4, 5, 6, 17, 18, 19], [1, 2, 4, 17, 18, 19], [1, 2, 4, 17, 18, 19], [2, 4, 33, 34], [2, 4, 33, 34, 35], [2, 4, 7, 8, 33, 34], [2, 4, 7, 8, 33, 34], [2, 4, 7, 8, 33, 34, 45], [2, 4, 8, 33, 34], [2, 4, 33, 34], [2, 4, 33, 34], [2, 4, 33, 34], [2, 4, 73], [2, 3], [2, 9], [2, 9, 86, 87], [2, 9, 86, 87, 88], [2, 9, 11, 86, 87], [2, 9, 86, 87, 98], [2, 3], [2, 9, 86, 87], [2, 3]] : List (List Nat)).getD i []) false false false false Tryd.f19 = some F131 := by kernel_rfl
theorem tie20 : compF Tryd.prog ids (fun i => ([[0], [0, 8], [2], [0, 3], [0, 3, 4], [0, 3, 4, 5], [0, 3, 4, 5, 11], [0, 3, 4, 5], [0, 3, 4, 5, 6], [0, 3, 4, 5, 6, 17], [0, 3, 4, 5, 6], [0, 3, 4, 5], [4, 28], [2], [2]] : List (List Nat)).getD i []) false false false false Tryd.f20 = some F20 := by kernel_rfl
theorem tie132 : compF Tryd.prog ids (fun i => ([[0, 2], [0, 2, 11], [2, 3, 4], [2, 5], [2, 5, 6], [2, 5, 6, 35], [2, 5, 6], [2, 5, 6, 42], [2, 5, 6, 7], [2, 5, 6, 7, 8], [2, 5, 6, 7, 8, 44], [2, 5, 6, 7, 8], [2, 5, 6, 7, 8, 53], [2, 5, 6, 7, 8], [2, 5, 6, 7, 56], [2, 5, 6], [2, 5, 6, 7, 64], [2, 5, 6], [2, 5, 6, 7], [2, 5, 6], [2, 5, 6, 78], [2, 3, 4], [2, 3, 4]] : List (List Nat)).getD i []) false false false false Tryd.f21 = some F132 := by kernel_rfl
theorem tie133 : compF Tryd.prog ids (fun i => ([[2, 3], [2, 3, 19], [4], [2, 3, 5], [2, 3, 5, 24], [2, 3, 5], [2, 3, 5, 37], [4], [4]] : List (List Nat)).getD i []) false false false false Tryd.f22 = some F133 := by kernel_rfl
theorem tie134 : compF Tryd.prog ids (fun i => ([[0], [0, 3], [4, 5], [4, 14], [2], [2]] : List (List Nat)).getD i []) false false false false Tryd.f23 = some F134 := by kernel_rfl
theorem tie16 : compF Tryd.prog ids (fun i => ([[1], [1, 3], [1, 3, 4], [1, 3, 4, 6], [1, 3, 4], [1, 3, 4], [2]] : List (List Nat)).getD i []) false false false false Tryd.f24 = some F16 := by kernel_rfl
theorem tie135 : compF Tryd.prog ids (fun i => ([[1, 2, 3], [1, 2, 3, 13], [1, 2, 3, 13, 14], [1, 2, 3, 13, 14], [6], [1, 2, 3, 13, 21], [6], [1, 2, 3, 13, 29], [6], [1, 2, 3, 13, 36], [6], [1, 2, 3, 13, 42], [6], [1, 2, 3, 13, 57], [6], [1, 2, 3, 61], [1, 2, 3, 7], [2, 7, 8], [2, 7, 8, 9], [2, 8, 10], [2, 10], [6], [1, 3, 11], [1, 3, 11, 109], [1, 3, 11, 109, 110], [11], [1, 3, 11, 109, 119], [11], [1, 3, 11, 109, 128], [11, 132], [11], [11], [1, 3, 11, 109, 141], [11], [11, 151], [11], [6]] : List (List Nat)).getD i []) true false false false Tryd.f25 = some F135 := by kernel_rfl
theorem tie23 : compF Tryd.prog ids (fun i => ([[0, 1], [0, 1, 5], [4]] : List (List Nat)).getD i []) false false false false Tryd.f26 = some F23 := by kernel_rfl
theorem tie136 : compF Tryd.prog ids (fun i => ([[0, 1], [0, 1, 15], [4], [0, 1, 5], [1, 5], [4]] : List (List Nat)).getD i []) false false false false Tryd.f27 = some F136 := by kernel_rfl
theorem tie137 : compF Tryd.prog ids (fun i => ([[0, 1, 2, 6], [0, 1, 2, 6, 7], [0, 1, 6, 7, 8], [0, 1, 6, 7, 8, 15], [0, 1, 6, 7, 8], [0, 1, 6, 7, 8], [6]] : List (List Nat)).getD i []) false false false false Tryd.f28 = some F137 := by kernel_rfl
theorem tie138 : compF Tryd.prog ids (fun i => ([[1, 2], [1, 2, 10], [4], [1, 2, 5, 6], [1, 2, 5, 6, 12], [1, 2, 5, 6, 12, 13], [2, 5, 6], [1, 2, 5, 6, 12, 15], [1, 2, 5, 6, 12, 15], [2, 5, 6], [1, 2, 5, 6, 12, 18], [2, 5, 6], [1, 2, 5, 6, 12, 20], [2, 5, 6], [1, 2, 5, 6, 12, 22], [1, 2, 5, 6, 22], [2, 5, 6], [4]] : List (List Nat)).getD i []) false false false false Tryd.f29 = some F138 := by kernel_rfl
theorem tie139 : compF Tryd.prog ids (fun i => ([[1, 2, 4], [1, 2, 4, 5], [1, 2, 4, 5, 6], [1, 2, 4, 5, 6], [2, 4, 5, 6, 7], [2, 4, 5, 6, 7, 24], [2, 4, 5, 6, 7, 8], [2, 4, 5, 6, 7, 8], [2, 4, 5, 6, 7, 8, 9], [2, 4, 5, 6, 7, 8, 9, 10], [2, 4, 5, 6, 7, 8, 9, 10, 52], [2, 4, 5, 6, 7, 8, 9, 10], [2, 4, 5, 6, 7, 8, 10], [2, 4, 5, 6, 7, 8, 10], [2, 4, 5, 6, 7, 10, 68, 69, 70], [2, 4, 5, 6, 7, 10, 68, 69, 70, 71], [2, 4, 5, 6, 7, 10, 12, 68, 69, 70], [2, 4, 5, 6, 7, 10, 12, 68, 69, 70, 74], [2, 4, 5, 6, 7, 10, 68, 69, 70], [2, 4, 5, 6, 7, 10, 12, 68, 69, 70, 81], [2, 4, 5, 6, 7, 10, 12, 68, 69, 70], [2, 4, 5, 6, 7, 10, 68, 69, 70], [2, 4, 5, 6, 7, 10, 68, 69, 70, 97], [2, 4, 5, 6, 7, 10, 68, 69, 70], [2, 4, 5, 6, 7, 10, 68, 69, 70], [4]] : List (List Nat)).getD i []) false true false false Tryd.f30 = some F139 := by kernel_rfl
theorem tie140 : compF Tryd.prog ids (fun i => ([[1], [2]] : List (List Nat)).getD i []) false false false false Tryd.f31 = some F140 := by kernel_rfl
theorem tie141 : compF Tryd.prog ids (fun i => ([[1, 2], [1, 2, 6], [1, 2, 6, 7], [4], [1, 2, 6, 17], [1, 2, 6, 17], [4], [1, 2, 6, 28], [4], [1, 2, 6, 38], [4], [1, 2, 6, 48], [1, 2, 48], [4], [4]] : List (List Nat)).getD i []) false false false false Tryd.f32 = some F141 := by kernel_rfl
theorem tie142 : compF Tryd.prog ids (fun i => ([[1, 2], [1, 2, 6], [1, 2, 6, 7], [1, 2, 6, 7, 21], [1, 2, 6, 7], [1, 2, 6, 7], [1, 2, 6, 28], [4, 5], [2, 6], [2, 6, 8], [2, 6, 8, 9], [2, 6, 8, 33], [2, 6, 8, 9], [2, 6, 8, 9, 10], [2, 6, 8, 9, 10, 37], [2, 6, 8, 9, 10], [2, 6, 8, 9, 10, 44], [2, 6, 8, 9, 10, 11], [2, 6, 8, 9, 10, 11, 58], [2, 6, 8, 9, 10], [2, 6, 8, 9, 10, 11], [2, 6, 8, 9, 10, 11], [2, 6, 8, 9, 10, 11, 12], [2, 6, 8, 9, 10, 11, 12, 13], [2, 6, 8, 9, 10, 11, 12, 13, 74], [2, 6, 8, 9, 10, 11, 12, 13], [2, 6, 8, 9, 10, 11, 12, 13, 83], [2, 6, 8, 9, 10, 11, 12, 13, 91], [2, 6, 8, 10, 11, 12, 13], [2, 6, 8, 9, 10, 11, 12, 13], [2, 6, 8, 9, 10, 11, 12, 13, 107], [2, 6, 8, 9, 10, 11, 12, 13], [4, 5]] : List (List Nat)).getD i []) false false false false Tryd.f33 = some F142 := by kernel_rfl
theorem tie143 : compF Tryd.prog ids (fun i => ([[0, 1], [0, 1, 5], [0, 1, 5, 9], [0, 1, 5], [0, 1, 5, 17], [4], [4]] : List (List Nat)).getD i []) false false false false Tryd.f34 = some F143 := by kernel_rfl
theorem tie144 : compF Tryd.prog ids (fun i => ([[1, 2], [1, 2, 10], [1, 2, 10, 11], [4], [1, 2, 10, 13], [4], [1, 2, 22], [4], [4]] : List (List Nat)).getD i []) false false false false Tryd.f35 = some F144 := by kernel_rfl
theorem tie145 : compF Tryd.prog ids (fun i => ([[0], [3], [3, 4], [3, 4], [3, 4], [3, 4], [3, 4], [3, 4], [3, 4], [2], [3, 12], [3, 12], [3, 12], [3, 12], [3, 12], [2], [3, 18], [3, 18], [3, 18], [3, 18], [3, 18], [3, 18], [3, 18], [3, 18], [18], [2], [2]] : List (List Nat)).getD i []) false false false false Tryd.f36 = some F145 := by kernel_rfl
theorem tie146 : compF Tryd.prog ids (fun i => ([[0], [3], [3, 4], [3, 4], [3, 4], [3, 4], [3, 4], [4], [2], [2]] : List (List Nat)).getD i []) false false false false Tryd.f37 = some F146 := by kernel_rfl
theorem tie15 : compF Tryd.prog ids (fun i => ([[1], [1, 3], [1, 3, 4], [3, 4, 12, 13], [3, 4, 12, 13, 14], [3, 4, 6, 12, 13], [3, 4, 12, 13, 17], [3, 4, 7], [3, 4, 7, 26], [3, 4, 7, 9], [3, 4, 7, 35], [3, 7], [], [3, 4, 12, 13], [2]] : List (List Nat)).getD i []) false false false false Tryd.f38 = some F15 := by kernel_rfl
theorem tie147 : compF Tryd.prog ids (fun i => ([[0, 3], [0, 3, 5], [], [0, 3, 5, 9], [0, 3, 5, 9], [], [0, 3, 5, 16], [], [0, 3, 5, 27], [0, 3], [], [0, 3, 5, 37], [], [0, 3, 5, 42], [], [0, 3, 47], []] : List (List Nat)).getD i []) false false false false Tryd.f39 = some F147 := by kernel_rfl
theorem tie148 : compF Tryd.prog ids (fun i => ([[0, 1, 2], [0], [6]] : List (List Nat)).getD i []) false true false false Tryd.f40 = some F148 := by kernel_rfl
theorem tie149 : compF Tryd.prog ids (fun i => ([[0], [0, 3], [0, 3, 4], [0, 3, 4, 11], [0, 3, 4, 5], [0, 3, 4, 5], [0, 3, 4], [2]] : List (List Nat)).getD i []) false false false false Tryd.f41 = some F149 := by kernel_rfl
theorem tie150 : compF Tryd.prog ids (fun i => ([[0, 14], [0], [0, 21], []] : List (List Nat)).getD i []) false false false false Tryd.f42 = some F150 := by kernel_rfl
theorem tie151 : compF Tryd.prog ids (fun i => ([[0], [3], [3, 16], [2], [2]] : List (List Nat)).getD i []) false false false false Tryd.f43 = some F151 := by kernel_rfl
theorem tie152 : compF Tryd.prog ids (fun i => ([[], [0]] : List (List Nat)).getD i []) false false false false Tryd.f44 = some F152 := by kernel_rfl
theorem tie153 : compF Tryd.prog ids (fun i => ([[0, 1, 8], [0, 1], [0], [0, 38], []] : List (List Nat)).getD i []) false false false false Tryd.f45 = some F153 := by kernel_rfl
theorem tie154 : compF Tryd.prog ids (fun i => ([[0, 12], []] : List (List Nat)).getD i []) false false false false Tryd.f46 = some F154 := by kernel_rfl
theorem tie155 : compF Tryd.prog ids (fun i => ([[0, 1, 4], [0, 1, 4, 5], [0, 1, 4, 5], [0, 1, 4, 5, 19], [0, 1, 4, 5], [4, 5], [4]] : List (List Nat)).getD i []) false false false false Tryd.f47 = some F155 := by kernel_rfl
theorem tie33 : compF Tryd.prog ids (fun i => ([[1, 2], [1, 2, 21], [1, 2, 5], [2, 5], [1, 2], [1, 2, 6], [1, 2, 6, 34], [1, 2, 6], [1, 2, 6], [4]] : List (List Nat)).getD i []) false false false false Tryd.f48 = some F33 := by kernel_rfl
theorem tie156 : compF Tryd.prog ids (fun i => ([[0, 1], [0, 1, 5], [0, 1, 5, 9], [0, 1, 5], [0, 1, 5, 17], [4], [4]] : List (List Nat)).getD i []) false false false false Tryd.f49 = some F156 := by kernel_rfl
theorem tie157 : compF Tryd.prog ids (fun i => ([[0], [0, 4], [2], [6], [2], [2]] : List (List Nat)).getD i []) false false false false Tryd.f50 = some F157 := by kernel_rfl
theorem tie158 : compF Tryd.prog ids (fun i => ([[1, 2, 3], [1, 2, 3, 7], [1, 2, 3, 7, 8], [1, 2, 3, 7, 8, 19], [6], [1, 2, 3, 7, 8, 29], [6], [1, 2, 3, 7, 8, 9], [1, 2, 3, 7, 8, 9, 51], [1, 2, 3, 9], [3, 10], [10, 71], [10], [6]] : List (List Nat)).getD i []) true false false false Tryd.f51 = some F158 := by kernel_rfl
theorem tie159 : compF Tryd.prog ids (fun i => ([[1, 2, 3, 4, 5, 6, 7], [1, 2, 3, 4, 5, 6, 15], [3, 4, 5, 6, 15, 16], [3, 4, 5, 15, 16, 17], [15, 16, 17, 18], [15, 16, 17, 18], [15, 17, 18], [15, 18], [14]] : List (List Nat)).getD i []) true false false false Tryd.f52 = some F159 := by kernel_rfl
theorem tie160 : compF Tryd.prog ids (fun i => ([[0, 1, 2], [0, 1, 2, 7], [0, 1, 2, 7, 8], [0, 1, 2, 7, 8, 12], [0, 1, 2, 7, 8], [0, 1, 2, 7, 8], [6]] : List (List Nat)).getD i []) true false false false Tryd.f53 = some F160 := by kernel_rfl
theorem tie161 : compF Tryd.prog ids (fun i => ([[0], [0, 3], [0, 3, 4], [0, 3, 4, 7], [0, 3, 4], [0, 3, 4, 15], [2], [2]] : List (List Nat)).getD i []) false false false false Tryd.f54 = some F161 := by kernel_rfl
theorem tie162 : compF Tryd.prog ids (fun i => ([[0, 1, 4], [0, 1, 4, 5], [0, 1, 4, 5, 16], [0, 1, 4, 5], [0, 1, 4, 19], [0, 1, 4, 19, 20], [0, 1, 4, 19, 20], [4], [0, 1, 4, 19, 31], [0, 1, 4, 19, 31], [0, 1, 4, 19, 31], [0, 4, 6], [0, 4, 6, 7], [4], [0, 1, 4, 19, 47], [0, 4, 8], [4], [0, 1, 4, 19, 55], [0, 4, 59], [4], [4], [0, 1, 4, 64], [0, 1, 4, 9], [4], [0, 1, 4, 10], [0, 1, 4, 10, 11], [0, 1, 4, 10, 11, 12], [0, 1, 4, 10, 11, 12, 83], [4, 10, 11, 12], [4]] : List (List Nat)).getD i []) false false false false Tryd.f55 = some F162 := by kernel_rfl
theorem tie163 : compF Tryd.prog ids (fun i => ([[0], [2]] : List (List Nat)).getD i []) false false false false Tryd.f56 = some F163 := by kernel_rfl
theorem tie164 : compF Tryd.prog ids (fun i => ([[1, 2], [1, 5], [1, 5, 12], [1, 5, 12, 13], [4], [1, 5, 12, 15], [4], [1, 5, 20], [4], [4]] : List (List Nat)).getD i []) false false false false Tryd.f57 = some F164 := by kernel_rfl
theorem tie32 : compF Tryd.prog ids (fun i => ([[1], [2]] : List (List Nat)).getD i []) false false false false Tryd.f58 = some F32 := by kernel_rfl
theorem tie165 : compF Tryd.prog ids (fun i => ([[0, 2, 4], [0, 2, 4, 10], []] : List (List Nat)).getD i []) false false false false Tryd.f59 = some F165 := by kernel_rfl
theorem tie166 : compF Tryd.prog ids (fun i => ([[0, 3], [0, 5], [], [0, 5, 8], [], [0, 12], []] : List (List Nat)).getD i []) false false false false Tryd.f60 = some F166 := by kernel_rfl
theorem tie167 : compF Tryd.prog ids (fun i => ([[0, 3], [0, 3], [0, 9], [], []] : List (List Nat)).getD i []) false false false false Tryd.f61 = some F167 := by kernel_rfl
theorem tie168 : compF Tryd.prog ids (fun i => ([[2, 3], [2, 3, 5], [2, 3], [2, 3], [], [2, 3, 5, 17], [], [2, 3, 5, 24], [], [2, 3, 5, 31], [2, 3, 5, 31], [2, 3], [2, 3], [], [2, 3, 45], [2, 3], [2], [2], []] : List (List Nat)).getD i []) false false false false Tryd.f62 = some F168 := by kernel_rfl
theorem tie169 : compF Tryd.prog ids (fun i => ([[2, 3], [2, 3, 6], [2, 3, 6, 7], [2, 3], [], [2, 3, 6, 21], [2, 3], [2, 3], [], [2, 3, 6, 34], [], [2, 3, 6, 41], [], [2, 3, 6, 46], [2, 3], [2], [], [2, 3, 6, 56], [], [2, 3, 60], [2, 3, 64, 65], [2, 3, 64, 65, 66], [2, 3, 4, 64, 65], [2, 3, 64, 65], [2, 3, 64, 65]] : List (List Nat)).getD i []) false false false false Tryd.f63 = some F169 := by kernel_rfl
theorem tie170 : compF Tryd.prog ids (fun i => ([[0, 1], [0, 1, 8], [0, 1, 12], [0, 1, 22], [0, 1], [0, 1, 40], [0, 1], [4]] : List (List Nat)).getD i []) false false false false Tryd.f64 = some F170 := by kernel_rfl
theorem tie171 : compF Tryd.prog ids (fun i => ([[0, 1, 4], [0, 1, 4, 11], [4], [0, 1, 4, 5], [0, 1, 4, 5, 19], [0, 1, 4, 5, 35], [0, 1, 4, 5], [1, 4, 5, 6], [4, 6, 53], [4, 6], [4], [0, 1, 4, 5, 59], [0, 1, 4, 5, 69], [0, 1, 4, 5], [4, 7], [4, 7, 81], [4, 7], [4], [0, 1, 4, 5, 100], [4], [0, 1, 4, 5, 113], [4], [4]] : List (List Nat)).getD i []) false false false false Tryd.f65 = some F171 := by kernel_rfl
theorem tie172 : compF Tryd.prog ids (fun i => ([[0, 1, 20], [0, 1], []] : List (List Nat)).getD i []) false false false false Tryd.f66 = some F172 := by kernel_rfl
theorem tie173 : compF Tryd.prog ids (fun i => ([[0, 1, 4], [0, 1, 4, 5], [0, 1, 4, 5, 19], [0, 1, 4, 5], [0, 1, 4, 5, 6], [0, 1, 4, 5, 7], [0, 1, 4, 7, 32], [4], [0, 1, 4, 7, 8], [0, 1, 4, 7, 8, 45], [0, 1, 4, 7, 8], [4, 7, 8], [4], [0, 1, 4, 5, 9], [0, 1, 4, 5, 9, 59], [0, 4, 9], [0, 4, 9], [0, 1, 4, 5, 9, 64], [0, 1, 4, 9], [0, 1, 4, 9, 10], [0, 1, 4, 9, 10], [0, 4, 9], [0, 1, 4, 5, 9, 79], [0, 1, 4, 5, 9], [0, 1, 4, 5, 9, 11], [0, 1, 4, 5, 9, 11], [0, 4, 9], [0, 1, 4, 5, 9, 109], [0, 1, 4, 5, 9], [0, 1, 4, 5, 9], [0, 4, 9], [4, 9], [4], [4, 9], [4]] : List (List Nat)).getD i []) false false false false Tryd.f67 = some F173 := by kernel_rfl
theorem tie28 : compF Tryd.prog ids (fun i => ([[0, 1], [0, 1, 5], [0, 1, 5, 9], [0, 1, 5], [0, 1, 5, 17], [4], [4]] : List (List Nat)).getD i []) false false false false Tryd.f68 = some F28 := by kernel_rfl
theorem tie174 : compF Tryd.prog ids (fun i => ([[0], [3], [3, 4], [2], [3, 6], [2], [3, 8], [2], [3, 10], [2], [3, 12], [3, 12], [2], [3, 15], [15], [2], [2]] : List (List Nat)).getD i []) false false false false Tryd.f69 = some F174 := by kernel_rfl
theorem tie175 : compF Tryd.prog ids (fun i => ([[0, 1, 2, 3], [0, 1, 2, 3, 11], [8], [8]] : List (List Nat)).getD i []) true false false false Tryd.f70 = some F175 := by kernel_rfl
theorem tie176 : compF Tryd.prog ids (fun i => ([[0, 1, 5, 6], [6]] : List (List Nat)).getD i []) false false false false Tryd.f71 = some F176 := by kernel_rfl
theorem tie177 : compF Tryd.prog ids (fun i => ([[0, 1, 4], [0, 1, 4, 5], [0, 1, 4, 5, 12], [0, 1, 4, 5], [0, 1, 4, 15], [0, 1, 4, 15, 16], [0, 1, 4, 15, 16], [4], [0, 1, 4, 15, 25], [0, 1, 4, 15, 25], [4], [0, 1, 4, 15, 34], [0, 1, 4, 15, 34], [4], [0, 1, 4, 15, 43], [0, 1, 4, 15, 43], [0, 1, 4, 6], [4], [0, 1, 4, 57], [4], [0, 1, 4, 7], [0, 1, 4, 7, 8], [4]] : List (List Nat)).getD i []) false false false false Tryd.f72 = some F177 := by kernel_rfl
theorem tie178 : compF Tryd.prog ids (fun i => ([[0, 1, 6, 7, 8], [8]] : List (List Nat)).getD i []) false false false false Tryd.f73 = some F178 := by kernel_rfl
theorem tie179 : compF Tryd.prog ids (fun i => ([[0, 1, 4], [0, 1, 4, 5], [0, 1, 4, 5, 13], [0, 1, 4, 5], [0, 1, 4, 16], [0, 1, 4, 16, 17], [4], [0, 1, 4, 16, 22], [0, 1, 4, 16, 22], [0, 1, 4, 16, 22], [0, 1, 4, 16, 22], [0, 1, 4, 6], [0, 1, 4, 6, 7], [4], [0, 1, 4, 43], [4], [0, 1, 4, 8], [0, 1, 4, 8, 9], [4]] : List (List Nat)).getD i []) false false false false Tryd.f74 = some F179 := by kernel_rfl
theorem tie38 : compF Tryd.prog ids (fun i => ([[]] : List (List Nat)).getD i []) false false false false Tryd.f75 = some F38 := by kernel_rfl
theorem tie39 : compF Tryd.prog ids (fun i => ([[1, 2], [1, 2, 10], [4], [1, 12, 13, 14], [1, 12, 13, 14, 15], [1, 6, 12, 13, 14], [1, 12, 13, 14, 21], [4], [1, 12, 13, 14], [4]] : List (List Nat)).getD i []) false false false false Tryd.f76 = some F39 := by kernel_rfl
theorem tie180 : compF Tryd.prog ids (fun i => ([[0, 2, 3], [3], []] : List (List Nat)).getD i []) false false true false Tryd.f77 = some F180 := by kernel_rfl
theorem tie181 : compF Tryd.prog ids (fun i => ([[]] : List (List Nat)).getD i []) false false false false Tryd.f78 = some F181 := by kernel_rfl
theorem tie182 : compF Tryd.prog ids (fun i => ([[]] : List (List Nat)).getD i []) false false false false Tryd.f79 = some F182 := by kernel_rfl
theorem tie183 : compF Tryd.prog ids (fun i => ([[]] : List (List Nat)).getD i []) false false false false Tryd.f80 = some F183 := by kernel_rfl
theorem tie184 : compF Tryd.prog ids (fun i => ([[]] : List (List Nat)).getD i []) false false false false Tryd.f81 = some F184 := by kernel_rfl
theorem tie185 : compF Tryd.prog ids (fun i => ([[]] : List (List Nat)).getD i []) false false false false Tryd.f82 = some F185 := by kernel_rfl
theorem tie186 : compF Tryd.prog ids (fun i => ([[]] : List (List Nat)).getD i []) false false false false Tryd.f83 = some F186 := by kernel_rfl
theorem tie187 : compF Tryd.prog ids (fun i => ([[0], [3], [3, 4], [2], [3, 6], [2], [3, 8], [2], [3, 10], [2], [3, 12], [3, 12], [2], [3, 15], [15], [2], [2]] : List (List Nat)).getD i []) false false false false Tryd.f84 = some F187 := by kernel_rfl
theorem tie188 : compF Tryd.prog ids (fun i => ([[]] : List (List Nat)).getD i []) false false false false Tryd.f85 = some F188 := by kernel_rfl
theorem tie189 : compF Tryd.prog ids (fun i => ([[]] : List (List Nat)).getD i []) false false false false Tryd.f86 = some F189 := by kernel_rfl
theorem tie190 : compF Tryd.prog ids (fun i => ([[]] : List (List Nat)).getD i []) false false false false Tryd.f87 = some F190 := by kernel_rfl
theorem tie191 : compF Tryd.prog ids (fun i => ([[0, 3], [0, 3, 4], [0, 3, 4], [0, 3, 4], [0, 4], []] : List (List Nat)).getD i []) false false true false Tryd.f88 = some F191 := by kernel_rfl
theorem tie192 : compF Tryd.prog ids (fun i => ([[0], [2]] : List (List Nat)).getD i []) false false false false Tryd.f89 = some F192 := by kernel_rfl
theorem tie193 : compF Tryd.prog ids (fun i => ([[0], [2]] : List (List Nat)).getD i []) false false false false Tryd.f90 = some F193 := by kernel_rfl
theorem tie194 : compF Tryd.prog ids (fun i => ([[0], [2]] : List (List Nat)).getD i []) false false false false Tryd.f91 = some F194 := by kernel_rfl
theorem tie195 : compF Tryd.prog ids (fun i => ([[0], [0, 3], [0, 3, 4], [0, 3, 4, 8], [0, 3, 4], [0, 3, 4], [0, 3, 4, 20], [2], [2]] : List (List Nat)).getD i []) false false false false Tryd.f92 = some F195 := by kernel_rfl
theorem tie196 : compF Tryd.prog ids (fun i => ([[0, 1], [0, 1, 5], [0, 1, 5, 9], [0, 1, 5], [0, 1, 5, 17], [4], [4]] : List (List Nat)).getD i []) false false false false Tryd.f93 = some F196 := by kernel_rfl
theorem tie197 : compF Tryd.prog ids (fun i => ([[0, 1, 2, 6], [0, 1, 2, 6, 15], [6], [0, 1, 2, 6, 7], [0, 1, 2, 6, 7, 24], [6], [0, 1, 2, 6, 7, 30], [6], [0, 1, 2, 6, 7, 39], [6], [0, 1, 2, 6, 7, 45], [6], [0, 1, 2, 6, 7, 50], [6], [0, 1, 6, 7, 56], [0, 1, 6], [0, 6, 8], [6, 8], [6], [0, 1, 6, 7, 73], [6], [6], [0, 1, 6, 7, 79], [6, 7], [6], [0, 1, 6, 7, 90], [6, 7], [6, 7, 9], [6, 9, 94], [6, 9], [6], [0, 1, 6, 7, 106], [6, 7], [6], [0, 1, 6, 7, 112], [0, 1, 6, 7], [6, 7, 10], [6], [0, 6, 7, 129], [6, 7], [6], [6], [6]] : List (List Nat)).getD i []) false false false false Tryd.f94 = some F197 := by kernel_rfl
theorem tie198 : compF Tryd.prog ids (fun i => ([[0], [2]] : List (List Nat)).getD i []) false false false false Tryd.f95 = some F198 := by kernel_rfl
theorem tie199 : compF Tryd.prog ids (fun i => ([[0, 1, 4], [0, 1, 4], [0, 4, 5], [4, 5], [4]] : List (List Nat)).getD i []) false false false false Tryd.f96 = some F199 := by kernel_rfl
theorem tie200 : compF Tryd.prog ids (fun i => ([[0, 1], [0, 1, 5], [0, 1], [0], [4]] : List (List Nat)).getD i []) false false true false Tryd.f97 = some F200 := by kernel_rfl
theorem tie201 : compF Tryd.prog ids (fun i => ([[1, 2], [2, 5], [4]] : List (List Nat)).getD i []) false false false false Tryd.f98 = some F201 := by kernel_rfl
theorem tie202 : compF Tryd.prog ids (fun i => ([[0, 1, 2, 3, 8], [0, 1, 2, 3, 8], [1, 8, 9], [8]] : List (List Nat)).getD i []) false false false false Tryd.f99 = some F202 := by kernel_rfl
theorem tie203 : compF Tryd.prog ids (fun i => ([[0, 1, 2, 6], [0, 1, 2, 6, 7], [0, 1, 2, 6, 7, 8], [0, 1, 2, 6, 7, 8, 35], [0, 1, 2, 6, 7, 8, 9], [0, 1, 2, 6, 7, 8, 9], [0, 1, 2, 6, 7, 8, 9, 10], [0, 1, 2, 6, 7, 8], [0, 1, 2, 6, 7, 8, 51], [6]] : List (List Nat)).getD i []) false false false false Tryd.f100 = some F203 := by kernel_rfl
theorem tie204 : compF Tryd.prog ids (fun i => ([[]] : List (List Nat)).getD i []) false true false false Tryd.f101 = some F204 := by kernel_rfl
def fid : Fid := ⟨fidF, fun N c pc => 2 * N ≤ dkey ∧ ∃ K ow d, comp Tryd.prog (ids.with ow d) N K c = some pc, fidT, fun g t nm => ∃ f, methT Tryd.prog t nm = some f ∧ ids.fn f = some g, ids.gl⟩
theorem hid : Ties Tryd.prog ids fid := by
  refine ⟨fun f g h => ?_, fun t u h => ?_, fun _ _ _ => Iff.rfl, fun _ _ h => h⟩
  · simp only [ids, idsF] at h
    split at h <;> first | (cases h; rfl) | cases h
  · simp only [ids, idsT] at h
    first | cases h | (split at h <;> first | (cases h; rfl) | cases h)
theorem hcr : Codes Tryd.prog ids fid := fun _ _ _ => Iff.rfl
theorem mixed : Tryd.prog.follows .mixedOrders = true := by kernel_rfl
theorem tied : Tied Tryd.prog ids fid prog15 := fun f pf h => by
  unfold prog15 at h
  split at h
  · cases h; exact ⟨Tryd.f38, _, _, _, _, Tryd.func38, tie15⟩
  · cases h; exact ⟨Tryd.f24, _, _, _, _, Tryd.func24, tie16⟩
  · cases h; exact ⟨Tryd.f15, _, _, _, _, Tryd.func15, tie17⟩
  · cases h; exact ⟨Tryd.f20, _, _, _, _, Tryd.func20, tie20⟩
  · cases h; exact ⟨Tryd.f26, _, _, _, _, Tryd.func26, tie23⟩
  · cases h; exact ⟨Tryd.f68, _, _, _, _, Tryd.func68, tie28⟩
  · cases h; exact ⟨Tryd.f58, _, _, _, _, Tryd.func58, tie32⟩
  · cases h; exact ⟨Tryd.f48, _, _, _, _, Tryd.func48, tie33⟩
  · cases h; exact ⟨Tryd.f75, _, _, _, _, Tryd.func75, tie38⟩
  · cases h; exact ⟨Tryd.f76, _, _, _, _, Tryd.func76, tie39⟩
  · cases h; exact ⟨Tryd.f3, _, _, _, _, Tryd.func3, tie116⟩
  · cases h; exact ⟨Tryd.f4, _, _, _, _, Tryd.func4, tie117⟩
  · cases h; exact ⟨Tryd.f5, _, _, _, _, Tryd.func5, tie118⟩
  · cases h; exact ⟨Tryd.f6, _, _, _, _, Tryd.func6, tie119⟩
  · cases h; exact ⟨Tryd.f7, _, _, _, _, Tryd.func7, tie120⟩
  · cases h; exact ⟨Tryd.f8, _, _, _, _, Tryd.func8, tie121⟩
  · cases h; exact ⟨Tryd.f9, _, _, _, _, Tryd.func9, tie122⟩
  · cases h; exact ⟨Tryd.f10, _, _, _, _, Tryd.func10, tie123⟩
  · cases h; exact ⟨Tryd.f11, _, _, _, _, Tryd.func11, tie124⟩
  · cases h; exact ⟨Tryd.f12, _, _, _, _, Tryd.func12, tie125⟩
  · cases h; exact ⟨Tryd.f13, _, _, _, _, Tryd.func13, tie126⟩
  · cases h; exact ⟨Tryd.f14, _, _, _, _, Tryd.func14, tie127⟩
  · cases h; exact ⟨Tryd.f16, _, _, _, _, Tryd.func16, tie128⟩
  · cases h; exact ⟨Tryd.f17, _, _, _, _, Tryd.func17, tie129⟩
  · cases h; exact ⟨Tryd.f18, _, _, _, _, Tryd.func18, tie130⟩
  · cases h; exact ⟨Tryd.f19, _, _, _, _, Tryd.func19, tie131⟩
  · cases h; exact ⟨Tryd.f21, _, _, _, _, Tryd.func21, tie132⟩
  · cases h; exact ⟨Tryd.f22, _, _, _, _, Tryd.func22, tie133⟩
  · cases h; exact ⟨Tryd.f23, _, _, _, _, Tryd.func23, tie134⟩
  · cases h; exact ⟨Tryd.f25, _, _, _, _, Tryd.func25, tie135⟩
  · cases h; exact ⟨Tryd.f27, _, _, _, _, Tryd.func27, tie136⟩
  · cases h; exact ⟨Tryd.f28, _, _, _, _, Tryd.func28, tie137⟩
  · cases h; exact ⟨Tryd.f29, _, _, _, _, Tryd.func29, tie138⟩
  · cases h; exact ⟨Tryd.f30, _, _, _, _, Tryd.func30, tie139⟩
  · cases h; exact ⟨Tryd.f31, _, _, _, _, Tryd.func31, tie140⟩
  · cases h; exact ⟨Tryd.f32, _, _, _, _, Tryd.func32, tie141⟩
  · cases h; exact ⟨Tryd.f33, _, _, _, _, Tryd.func33, tie142⟩
  · cases h; exact ⟨Tryd.f34, _, _, _, _, Tryd.func34, tie143⟩
  · cases h; exact ⟨Tryd.f35, _, _, _, _, Tryd.func35, tie144⟩
  · cases h; exact ⟨Tryd.f36, _, _, _, _, Tryd.func36, tie145⟩
  · cases h; exact ⟨Tryd.f37, _, _, _, _, Tryd.func37, tie146⟩
  · cases h; exact ⟨Tryd.f39, _, _, _, _, Tryd.func39, tie147⟩
  · cases h; exact ⟨Tryd.f40, _, _, _, _, Tryd.func40, tie148⟩
  · cases h; exact ⟨Tryd.f41, _, _, _, _, Tryd.func41, tie149⟩
  · cases h; exact ⟨Tryd.f42, _, _, _, _, Tryd.func42, tie150⟩
  · cases h; exact ⟨Tryd.f43, _, _, _, _, Tryd.func43, tie151⟩
  · cases h; exact ⟨Tryd.f44, _, _, _, _, Tryd.func44, tie152⟩
  · cases h; exact ⟨Tryd.f45, _, _, _, _, Tryd.func45, tie153⟩
  · cases h; exact ⟨Tryd.f46, _, _, _, _, Tryd.func46, tie154⟩
  · cases h; exact ⟨Tryd.f47, _, _, _, _, Tryd.func47, tie155⟩
  · cases h; exact ⟨Tryd.f49, _, _, _, _, Tryd.func49, tie156⟩
  · cases h; exact ⟨Tryd.f50, _, _, _, _, Tryd.func50, tie157⟩
  · cases h; exact ⟨Tryd.f51, _, _, _, _, Tryd.func51, tie158⟩
  · cases h; exact ⟨Tryd.f52, _, _, _, _, Tryd.func52, tie159⟩
  · cases h; exact ⟨Tryd.f53, _, _, _, _, Tryd.func53, tie160⟩
  · cases h; exact ⟨Tryd.f54, _, _, _, _, Tryd.func54, tie161⟩
  · cases h; exact ⟨Tryd.f55, _, _, _, _, Tryd.func55, tie162⟩
  · cases h; exact ⟨Tryd.f56, _, _, _, _, Tryd.func56, tie163⟩
  · cases h; exact ⟨Tryd.f57, _, _, _, _, Tryd.func57, tie164⟩
  · cases h; exact ⟨Tryd.f59, _, _, _, _, Tryd.func59, tie165⟩
  · cases h; exact ⟨Tryd.f60, _, _, _, _, Tryd.func60, tie166⟩
  · cases h; exact ⟨Tryd.f61, _, _, _, _, Tryd.func61, tie167⟩
  · cases h; exact ⟨Tryd.f62, _, _, _, _, Tryd.func62, tie168⟩
  · cases h; exact ⟨Tryd.f63, _, _, _, _, Tryd.func63, tie169⟩
  · cases h; exact ⟨Tryd.f64, _, _, _, _, Tryd.func64, tie170⟩
  · cases h; exact ⟨Tryd.f65, _, _, _, _, Tryd.func65, tie171⟩
  · cases h; exact ⟨Tryd.f66, _, _, _, _, Tryd.func66, tie172⟩
  · cases h; exact ⟨Tryd.f67, _, _, _, _, Tryd.func67, tie173⟩
  · cases h; exact ⟨Tryd.f69, _, _, _, _, Tryd.func69, tie174⟩
  · cases h; exact ⟨Tryd.f70, _, _, _, _, Tryd.func70, tie175⟩
  · cases h; exact ⟨Tryd.f71, _, _, _, _, Tryd.func71, tie176⟩
  · cases h; exact ⟨Tryd.f72, _, _, _, _, Tryd.func72, tie177⟩
  · cases h; exact ⟨Tryd.f73, _, _, _, _, Tryd.func73, tie178⟩
  · cases h; exact ⟨Tryd.f74, _, _, _, _, Tryd.func74, tie179⟩
  · cases h; exact ⟨Tryd.f77, _, _, _, _, Tryd.func77, tie180⟩
  · cases h; exact ⟨Tryd.f78, _, _, _, _, Tryd.func78, tie181⟩
  · cases h; exact ⟨Tryd.f79, _, _, _, _, Tryd.func79, tie182⟩
  · cases h; exact ⟨Tryd.f80, _, _, _, _, Tryd.func80, tie183⟩
  · cases h; exact ⟨Tryd.f81, _, _, _, _, Tryd.func81, tie184⟩
  · cases h; exact ⟨Tryd.f82, _, _, _, _, Tryd.func82, tie185⟩
  · cases h; exact ⟨Tryd.f83, _, _, _, _, Tryd.func83, tie186⟩
  · cases h; exact ⟨Tryd.f84, _, _, _, _, Tryd.func84, tie187⟩
  · cases h; exact ⟨Tryd.f85, _, _, _, _, Tryd.func85, tie188⟩
  · cases h; exact ⟨Tryd.f86, _, _, _, _, Tryd.func86, tie189⟩
  · cases h; exact ⟨Tryd.f87, _, _, _, _, Tryd.func87, tie190⟩
  · cases h; exact ⟨Tryd.f88, _, _, _, _, Tryd.func88, tie191⟩
  · cases h; exact ⟨Tryd.f89, _, _, _, _, Tryd.func89, tie192⟩
  · cases h; exact ⟨Tryd.f90, _, _, _, _, Tryd.func90, tie193⟩
  · cases h; exact ⟨Tryd.f91, _, _, _, _, Tryd.func91, tie194⟩
  · cases h; exact ⟨Tryd.f92, _, _, _, _, Tryd.func92, tie195⟩
  · cases h; exact ⟨Tryd.f93, _, _, _, _, Tryd.func93, tie196⟩
  · cases h; exact ⟨Tryd.f94, _, _, _, _, Tryd.func94, tie197⟩
  · cases h; exact ⟨Tryd.f95, _, _, _, _, Tryd.func95, tie198⟩
  · cases h; exact ⟨Tryd.f96, _, _, _, _, Tryd.func96, tie199⟩
  · cases h; exact ⟨Tryd.f97, _, _, _, _, Tryd.func97, tie200⟩
  · cases h; exact ⟨Tryd.f98, _, _, _, _, Tryd.func98, tie201⟩
  · cases h; exact ⟨Tryd.f99, _, _, _, _, Tryd.func99, tie202⟩
  · cases h; exact ⟨Tryd.f100, _, _, _, _, Tryd.func100, tie203⟩
  · cases h; exact ⟨Tryd.f101, _, _, _, _, Tryd.func101, tie204⟩
  · cases h
theorem glb {w : World} (h : laidMet Tryd.prog [("arenanet/compile.effects", Rows.laid_arenanet_compile_effects)] w) : GlbAt fid w := fun g cs hg => by
  simp only [fid, ids, idsG] at hg
  split at hg
  · cases hg
    exact ⟨(effRows15.flatten.map (Value.int .i64)), glb_of_laid (P := Tryd.prog) (n := "arenanet/compile.effects") (d := Rows.laid_arenanet_compile_effects) (g := 0) (t := 99) (vs := (effRows15.flatten.map (Value.int .i64))) (m := 4) (by kernel_rfl) (by kernel_rfl) (by kernel_rfl) (by kernel_rfl) h⟩
  · cases hg
end Go.Proofs.YtlbibgdenkleiaaDoor.T
end ST3
