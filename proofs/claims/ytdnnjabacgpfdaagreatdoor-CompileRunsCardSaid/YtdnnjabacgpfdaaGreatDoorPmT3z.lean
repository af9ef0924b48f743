/- The given program, held against the abstract one: function by function, by the kernel. -/
import Derived.Test.YtdnnjabacgpfdaaGreatDoorRows
import Derived.Test.YtdnnjabacgpfdaaGreatDoorPmY
import Derived.Test.YtdnnjabacgpfdaaGreatDoorPmW2
import Derived.Test.YtdnnjabacgpfdaaGreatDoorPmTb14
import Derived.KernelRfl
set_option linter.unusedSimpArgs false
set_option linter.unusedVariables false
section ST3z
namespace Go.Proofs.YtdnnjabacgpfdaaGreatDoor.T
open Go.Pm Go.Pm.F
def idsF : FuncId -> Option Nat := fun f => match f with
 | 3 => some 205
 | 4 => some 206
 | 5 => some 123
 | 6 => some 131
 | 7 => some 207
 | 8 => some 127
 | 9 => some 16
 | 10 => some 208
 | 11 => some 209
 | 12 => some 210
 | 13 => some 58
 | 14 => some 12
 | 15 => some 13
 | 16 => some 125
 | 17 => some 126
 | 18 => some 128
 | 19 => some 142
 | 20 => some 23
 | 21 => some 136
 | 22 => some 137
 | 23 => some 15
 | 24 => some 147
 | 25 => some 148
 | 26 => some 139
 | 27 => some 140
 | 28 => some 122
 | 29 => some 132
 | 30 => some 133
 | 31 => some 33
 | 32 => some 211
 | 33 => some 212
 | 34 => some 156
 | 35 => some 213
 | 36 => some 161
 | 37 => some 145
 | 38 => some 146
 | 39 => some 214
 | 40 => some 17
 | 41 => some 26
 | 42 => some 30
 | 43 => some 31
 | 44 => some 138
 | 45 => some 141
 | 46 => some 143
 | 47 => some 144
 | 48 => some 129
 | 49 => some 162
 | 50 => some 32
 | 51 => some 165
 | 52 => some 134
 | 53 => some 166
 | 54 => some 167
 | 55 => some 168
 | 56 => some 169
 | 57 => some 164
 | 58 => some 135
 | 59 => some 149
 | 60 => some 150
 | 61 => some 151
 | 62 => some 152
 | 63 => some 153
 | 64 => some 154
 | 65 => some 155
 | 66 => some 28
 | 67 => some 157
 | 68 => some 215
 | 69 => some 216
 | 70 => some 217
 | 71 => some 174
 | 72 => some 35
 | 73 => some 27
 | 74 => some 37
 | 75 => some 9
 | 76 => some 163
 | 77 => some 176
 | 78 => some 177
 | 79 => some 178
 | 80 => some 179
 | 81 => some 38
 | 82 => some 39
 | 83 => some 180
 | 84 => some 181
 | 85 => some 182
 | 86 => some 183
 | 87 => some 184
 | 88 => some 185
 | 89 => some 186
 | 90 => some 187
 | 91 => some 188
 | 92 => some 189
 | 93 => some 190
 | 94 => some 191
 | 95 => some 158
 | 96 => some 159
 | 97 => some 160
 | 98 => some 170
 | 99 => some 171
 | 100 => some 172
 | 101 => some 173
 | 102 => some 200
 | 103 => some 201
 | 104 => some 175
 | 105 => some 192
 | 106 => some 193
 | 107 => some 194
 | 108 => some 195
 | 109 => some 196
 | 110 => some 197
 | 111 => some 198
 | 112 => some 199
 | 113 => some 204
 | 114 => some 202
 | 115 => some 203
 | 136 => some 115
 | _ => none
def idsT : TypeId -> Option Nat := fun t => match t with
 | _ => none
def idsG : Nat -> Option (List D) := fun g => match g with
 | 0 => some G_arenanet_compile_effects
 | _ => none
def ids : Ids := ⟨idsF, idsT, idsG, false, false⟩
def fidF : Nat -> FuncId := fun k => match k with
 | 205 => 3
 | 206 => 4
 | 123 => 5
 | 131 => 6
 | 207 => 7
 | 127 => 8
 | 16 => 9
 | 208 => 10
 | 209 => 11
 | 210 => 12
 | 58 => 13
 | 12 => 14
 | 13 => 15
 | 125 => 16
 | 126 => 17
 | 128 => 18
 | 142 => 19
 | 23 => 20
 | 136 => 21
 | 137 => 22
 | 15 => 23
 | 147 => 24
 | 148 => 25
 | 139 => 26
 | 140 => 27
 | 122 => 28
 | 132 => 29
 | 133 => 30
 | 33 => 31
 | 211 => 32
 | 212 => 33
 | 156 => 34
 | 213 => 35
 | 161 => 36
 | 145 => 37
 | 146 => 38
 | 214 => 39
 | 17 => 40
 | 26 => 41
 | 30 => 42
 | 31 => 43
 | 138 => 44
 | 141 => 45
 | 143 => 46
 | 144 => 47
 | 129 => 48
 | 162 => 49
 | 32 => 50
 | 165 => 51
 | 134 => 52
 | 166 => 53
 | 167 => 54
 | 168 => 55
 | 169 => 56
 | 164 => 57
 | 135 => 58
 | 149 => 59
 | 150 => 60
 | 151 => 61
 | 152 => 62
 | 153 => 63
 | 154 => 64
 | 155 => 65
 | 28 => 66
 | 157 => 67
 | 215 => 68
 | 216 => 69
 | 217 => 70
 | 174 => 71
 | 35 => 72
 | 27 => 73
 | 37 => 74
 | 9 => 75
 | 163 => 76
 | 176 => 77
 | 177 => 78
 | 178 => 79
 | 179 => 80
 | 38 => 81
 | 39 => 82
 | 180 => 83
 | 181 => 84
 | 182 => 85
 | 183 => 86
 | 184 => 87
 | 185 => 88
 | 186 => 89
 | 187 => 90
 | 188 => 91
 | 189 => 92
 | 190 => 93
 | 191 => 94
 | 158 => 95
 | 159 => 96
 | 160 => 97
 | 170 => 98
 | 171 => 99
 | 172 => 100
 | 173 => 101
 | 200 => 102
 | 201 => 103
 | 175 => 104
 | 192 => 105
 | 193 => 106
 | 194 => 107
 | 195 => 108
 | 196 => 109
 | 197 => 110
 | 198 => 111
 | 199 => 112
 | 204 => 113
 | 202 => 114
 | 203 => 115
 | 115 => 136
 | _ => 0
def fidT : Nat -> TypeId := fun k => match k with
 | _ => 0

theorem tie205 : compF Tryz.prog ids (fun i => ([[0, 1], [1, 5], [1, 5, 6, 7], [1, 5, 6, 7, 20], [4], [1, 5, 6, 8], [1, 5, 6, 8, 9], [1, 5, 6, 8, 9, 31], [1, 5, 6, 8, 9], [1, 5, 6, 8, 9, 39], [1, 5, 6, 8, 9, 10], [1, 5, 6, 8, 9, 10], [1, 5, 6, 8, 9, 10, 53], [1, 5, 6, 8, 9, 10, 11], [1, 5, 6, 8, 9, 10, 11, 70], [4], [1, 5, 6, 8, 9, 102], [4], [4]] : List (List Nat)).getD i []) false false false false Tryz.f3 = some F205 := by kernel_rfl
theorem tie123 : compF Tryz.prog ids (fun i => ([[0, 2], [2, 3], [2, 3, 4], [2, 3, 4, 5], [2, 3, 4, 5, 11], [2, 3, 4, 5], [2, 3, 4, 5, 16], [2, 3, 4, 5], [2]] : List (List Nat)).getD i []) false false false false Tryz.f5 = some F123 := by kernel_rfl
theorem tie131 : compF Tryz.prog ids (fun i => ([[1, 2], [1, 2, 4], [1, 2, 4, 17, 18, 19], [1, 2, 4, 17, 18, 19, 20], [1, 2, 4, 5, 6, 17, 18, 19], [1, 2, 4, 17, 18, 19], [1, 2, 4, 17, 18, 19], [2, 4, 33, 34], [2, 4, 33, 34, 35], [2, 4, 7, 8, 33, 34], [2, 4, 7, 8, 33, 34], [2, 4, 7, 8, 33, 34, 45], [2, 4, 8, 33, 34], [2, 4, 33, 34], [2, 4, 33, 34], [2, 4, 33, 34], [2, 4, 73], [2, 3], [2, 9], [2, 9, 86, 87], [2, 9, 86, 87, 88], [2, 9, 11, 86, 87], [2, 9, 86, 87, 98], [2, 3], [2, 9, 86, 87], [2, 3]] : List (List Nat)).getD i []) false false false false Tryz.f6 = some F131 := by kernel_rfl
theorem tie207 : compF Tryz.prog ids (fun i => ([[1], [4], [2]] : List (List Nat)).getD i []) false false false false Tryz.f7 = some F207 := by kernel_rfl
theorem tie127 : compF Tryz.prog ids (fun i => ([[], [1, 3], [3, 4, 5], [3, 4, 5, 6], [0]] : List (List Nat)).getD i []) false false false false Tryz.f8 = some F127 := by kernel_rfl
theorem tie16 : compF Tryz.prog ids (fun i => ([[1], [1, 3], [1, 3, 4], [1, 3, 4, 6], [1, 3, 4], [1, 3, 4], [2]] : List (List Nat)).getD i []) false false false false Tryz.f9 = some F16 := by kernel_rfl
theorem tie208 : compF Tryz.prog ids (fun i => ([[0, 1], [0, 5], [0, 5, 6], [0, 5, 6, 12], [0, 5, 6], [0, 5, 6, 7], [0, 5, 6, 7, 20], [0, 5, 6], [0, 5, 6], [4]] : List (List Nat)).getD i []) false false false false Tryz.f10 = some F208 := by kernel_rfl
theorem tie209 : compF Tryz.prog ids (fun i => ([[0, 2, 4], [0, 2, 4], [0, 2, 4, 26], [0, 2, 4, 28], [0, 2, 4, 28, 29], [], [0, 2, 4, 28, 48], [0, 2, 4, 6], [], [0, 2, 4, 28, 70], [0, 2, 4, 79], [], [], [0, 2, 4, 28, 94], [0, 2, 4, 117], [0, 2, 4], [0, 2, 4, 28, 125], [0, 2, 4, 7], [], [0, 2, 4, 28, 151], [], [0, 2, 4, 156], [0, 2, 4, 8], [0, 2, 4, 8, 162], [0, 2, 4, 8], [0, 2, 4, 8]] : List (List Nat)).getD i []) false true false false Tryz.f11 = some F209 := by kernel_rfl
theorem tie210 : compF Tryz.prog ids (fun i => ([[0, 2, 4], [0, 2, 4, 7], [0, 4, 7, 8], [0, 4, 7, 8, 18], [0, 4, 7, 8], [0, 4, 7, 8, 34], [6], [0, 4, 7, 8, 9], [0, 4, 7, 8, 9, 10], [0, 4, 7, 8, 9, 10, 50], [6], [0, 4, 7, 8, 9, 10, 11], [0, 4, 7, 8, 9, 10, 11, 12], [0, 4, 7, 8, 9, 10, 11, 12, 52], [0, 4, 7, 8, 9, 10, 11, 12], [0, 4, 7, 8, 9, 10, 11, 12, 60], [0, 4, 7, 8, 9, 10, 11, 12], [0, 4, 7, 8, 9, 11, 12], [0, 4, 7, 8, 9, 11, 12], [0, 4, 7, 8, 9, 11, 12, 78], [0, 4, 7, 8], [0, 4, 7, 8, 9, 11, 12, 88], [0, 4, 7, 8, 9, 11, 12, 88, 89], [0, 4, 7, 8], [0, 4, 7, 8, 9, 11, 12, 88, 99], [0, 4, 7, 8], [0, 4, 7, 8, 9, 11, 12, 88, 108], [0, 4, 7, 8], [0, 4, 7, 8, 9, 11, 12, 88, 112], [0, 4, 7, 8, 9, 115], [0, 4, 7, 8], [0, 4, 7, 8, 11, 12, 88, 118], [0, 4, 7, 8], [0, 4, 7, 8, 131], [6], [6]] : List (List Nat)).getD i []) false true false false Tryz.f12 = some F210 := by kernel_rfl
theorem tie58 : compF Tryz.prog ids (fun i => ([[0, 1], [0, 1, 10], [4], [0, 1, 5], [0, 1, 5, 14], [0, 1, 5], [0, 1, 5, 25], [4], [4]] : List (List Nat)).getD i []) false false false false Tryz.f13 = some F58 := by kernel_rfl
theorem tie125 : compF Tryz.prog ids (fun i => ([[1], [1, 14], [2], [1, 16, 17, 18], [1, 16, 17, 18, 19], [1, 4, 16, 17, 18], [1, 16, 17, 18, 27], [2], [1, 16, 17, 18], [1, 30, 31], [1, 30, 31, 32], [1, 6, 30, 31], [1, 30, 31, 42], [2], [1, 30, 31], [1, 7], [1, 7, 45, 46], [1, 7, 45, 46, 47], [1, 7, 9, 45, 46], [1, 7, 9, 45, 46, 50], [1, 7, 10, 45, 46], [1, 7, 10, 45, 46, 55], [2], [1, 7, 45, 46, 58], [1, 7, 45, 46], [1, 7, 45, 46], [2]] : List (List Nat)).getD i []) false false false false Tryz.f16 = some F125 := by kernel_rfl
theorem tie128 : compF Tryz.prog ids (fun i => ([[1, 2], [1, 2, 22], [4], [4]] : List (List Nat)).getD i []) false false false false Tryz.f18 = some F128 := by kernel_rfl
theorem tie142 : compF Tryz.prog ids (fun i => ([[1, 2], [1, 2, 6], [1, 2, 6, 7], [1, 2, 6, 7, 21], [1, 2, 6, 7], [1, 2, 6, 7], [1, 2, 6, 28], [4, 5], [2, 6], [2, 6, 8], [2, 6, 8, 9], [2, 6, 8, 33], [2, 6, 8, 9], [2, 6, 8, 9, 10], [2, 6, 8, 9, 10, 37], [2, 6, 8, 9, 10], [2, 6, 8, 9, 10, 44], [2, 6, 8, 9, 10, 11], [2, 6, 8, 9, 10, 11, 58], [2, 6, 8, 9, 10], [2, 6, 8, 9, 10, 11], [2, 6, 8, 9, 10, 11], [2, 6, 8, 9, 10, 11, 12], [2, 6, 8, 9, 10, 11, 12, 13], [2, 6, 8, 9, 10, 11, 12, 13, 74], [2, 6, 8, 9, 10, 11, 12, 13], [2, 6, 8, 9, 10, 11, 12, 13, 83], [2, 6, 8, 9, 10, 11, 12, 13, 91], [2, 6, 8, 10, 11, 12, 13], [2, 6, 8, 9, 10, 11, 12, 13], [2, 6, 8, 9, 10, 11, 12, 13, 107], [2, 6, 8, 9, 10, 11, 12, 13], [4, 5]] : List (List Nat)).getD i []) false false false false Tryz.f19 = some F142 := by kernel_rfl
theorem tie23 : compF Tryz.prog ids (fun i => ([[0, 1], [0, 1, 5], [4]] : List (List Nat)).getD i []) false false false false Tryz.f20 = some F23 := by kernel_rfl
theorem tie136 : compF Tryz.prog ids (fun i => ([[0, 1], [0, 1, 15], [4], [0, 1, 5], [1, 5], [4]] : List (List Nat)).getD i []) false false false false Tryz.f21 = some F136 := by kernel_rfl
theorem tie137 : compF Tryz.prog ids (fun i => ([[0, 1, 2, 6], [0, 1, 2, 6, 7], [0, 1, 6, 7, 8], [0, 1, 6, 7, 8, 15], [0, 1, 6, 7, 8], [0, 1, 6, 7, 8], [6]] : List (List Nat)).getD i []) false false false false Tryz.f22 = some F137 := by kernel_rfl
theorem tie15 : compF Tryz.prog ids (fun i => ([[1], [1, 3], [1, 3, 4], [3, 4, 12, 13], [3, 4, 12, 13, 14], [3, 4, 6, 12, 13], [3, 4, 12, 13, 17], [3, 4, 7], [3, 4, 7, 26], [3, 4, 7, 9], [3, 4, 7, 35], [3, 7], [], [3, 4, 12, 13], [2]] : List (List Nat)).getD i []) false false false false Tryz.f23 = some F15 := by kernel_rfl
theorem tie147 : compF Tryz.prog ids (fun i => ([[0, 3], [0, 3, 5], [], [0, 3, 5, 9], [0, 3, 5, 9], [], [0, 3, 5, 16], [], [0, 3, 5, 27], [0, 3], [], [0, 3, 5, 37], [], [0, 3, 5, 42], [], [0, 3, 47], []] : List (List Nat)).getD i []) false false false false Tryz.f24 = some F147 := by kernel_rfl
theorem tie148 : compF Tryz.prog ids (fun i => ([[0, 1, 2], [0], [6]] : List (List Nat)).getD i []) false true false false Tryz.f25 = some F148 := by kernel_rfl
theorem tie139 : compF Tryz.prog ids (fun i => ([[1, 2, 4], [1, 2, 4, 5], [1, 2, 4, 5, 6], [1, 2, 4, 5, 6], [2, 4, 5, 6, 7], [2, 4, 5, 6, 7, 24], [2, 4, 5, 6, 7, 8], [2, 4, 5, 6, 7, 8], [2, 4, 5, 6, 7, 8, 9], [2, 4, 5, 6, 7, 8, 9, 10], [2, 4, 5, 6, 7, 8, 9, 10, 52], [2, 4, 5, 6, 7, 8, 9, 10], [2, 4, 5, 6, 7, 8, 10], [2, 4, 5, 6, 7, 8, 10], [2, 4, 5, 6, 7, 10, 68, 69, 70], [2, 4, 5, 6, 7, 10, 68, 69, 70, 71], [2, 4, 5, 6, 7, 10, 12, 68, 69, 70], [2, 4, 5, 6, 7, 10, 12, 68, 69, 70, 74], [2, 4, 5, 6, 7, 10, 68, 69, 70], [2, 4, 5, 6, 7, 10, 12, 68, 69, 70, 81], [2, 4, 5, 6, 7, 10, 12, 68, 69, 70], [2, 4, 5, 6, 7, 10, 68, 69, 70], [2, 4, 5, 6, 7, 10, 68, 69, 70, 97], [2, 4, 5, 6, 7, 10, 68, 69, 70], [2, 4, 5, 6, 7, 10, 68, 69, 70], [4]] : List (List Nat)).getD i []) false true false false Tryz.f26 = some F139 := by kernel_rfl
theorem tie140 : compF Tryz.prog ids (fun i => ([[1], [2]] : List (List Nat)).getD i []) false false false false Tryz.f27 = some F140 := by kernel_rfl
theorem tie122 : compF Tryz.prog ids (fun i => ([[1, 2], [1, 2, 4], [1, 2, 4, 5], [1, 2, 4, 5, 6], [1, 2, 4, 5, 6, 13], [1, 2, 4, 5, 6], [1, 2, 4, 5, 6, 21], [1, 2, 4, 5, 6], [1, 2, 4, 5, 6], [1, 2, 4, 5, 6], [2, 5, 50], [2, 3], [2, 5, 7], [2, 5, 7, 53], [2, 5, 7], [2, 5, 7, 59], [2, 3], [2, 3]] : List (List Nat)).getD i []) false false false false Tryz.f28 = some F122 := by kernel_rfl
theorem tie132 : compF Tryz.prog ids (fun i => ([[0, 2], [0, 2, 11], [2, 3, 4], [2, 5], [2, 5, 6], [2, 5, 6, 35], [2, 5, 6], [2, 5, 6, 42], [2, 5, 6, 7], [2, 5, 6, 7, 8], [2, 5, 6, 7, 8, 44], [2, 5, 6, 7, 8], [2, 5, 6, 7, 8, 53], [2, 5, 6, 7, 8], [2, 5, 6, 7, 56], [2, 5, 6], [2, 5, 6, 7, 64], [2, 5, 6], [2, 5, 6, 7], [2, 5, 6], [2, 5, 6, 78], [2, 3, 4], [2, 3, 4]] : List (List Nat)).getD i []) false false false false Tryz.f29 = some F132 := by kernel_rfl
theorem tie133 : compF Tryz.prog ids (fun i => ([[2, 3], [2, 3, 19], [4], [2, 3, 5], [2, 3, 5, 24], [2, 3, 5], [2, 3, 5, 37], [4], [4]] : List (List Nat)).getD i []) false false false false Tryz.f30 = some F133 := by kernel_rfl
theorem tie33 : compF Tryz.prog ids (fun i => ([[1, 2], [1, 2, 21], [1, 2, 5], [2, 5], [1, 2], [1, 2, 6], [1, 2, 6, 34], [1, 2, 6], [1, 2, 6], [4]] : List (List Nat)).getD i []) false false false false Tryz.f31 = some F33 := by kernel_rfl
theorem tie211 : compF Tryz.prog ids (fun i => ([[0, 1, 2], [0, 1, 2, 14], [6], [6]] : List (List Nat)).getD i []) false false false false Tryz.f32 = some F211 := by kernel_rfl
theorem tie212 : compF Tryz.prog ids (fun i => ([[0, 2, 4], [0, 2, 4], [0, 2, 4, 19], [0, 2, 4, 19, 20], [6], [0, 2, 4, 19, 33], [6], [0, 2, 4, 19, 42], [6], [0, 2, 4, 19, 56], [4, 7], [7, 67], [6], [6], [0, 2, 4, 73], [0, 2, 4, 8], [0, 2, 4, 8, 88], [6], [0, 2, 4, 8, 95], [6], [4, 8, 9], [4, 8, 9, 110], [6], [4, 8, 9, 119], [6], [4, 10], [10, 134], [6], [6], [6]] : List (List Nat)).getD i []) false false false false Tryz.f33 = some F212 := by kernel_rfl
theorem tie156 : compF Tryz.prog ids (fun i => ([[0, 1], [0, 1, 5], [0, 1, 5, 9], [0, 1, 5], [0, 1, 5, 17], [4], [4]] : List (List Nat)).getD i []) false false false false Tryz.f34 = some F156 := by kernel_rfl
theorem tie213 : compF Tryz.prog ids (fun i => ([[0, 1, 2, 3], [0, 1, 2, 3, 25], []] : List (List Nat)).getD i []) false true false false Tryz.f35 = some F213 := by kernel_rfl
theorem tie161 : compF Tryz.prog ids (fun i => ([[0], [0, 3], [0, 3, 4], [0, 3, 4, 7], [0, 3, 4], [0, 3, 4, 15], [2], [2]] : List (List Nat)).getD i []) false false false false Tryz.f36 = some F161 := by kernel_rfl
theorem tie145 : compF Tryz.prog ids (fun i => ([[0], [3], [3, 4], [3, 4], [3, 4], [3, 4], [3, 4], [3, 4], [3, 4], [2], [3, 12], [3, 12], [3, 12], [3, 12], [3, 12], [2], [3, 18], [3, 18], [3, 18], [3, 18], [3, 18], [3, 18], [3, 18], [3, 18], [18], [2], [2]] : List (List Nat)).getD i []) false false false false Tryz.f37 = some F145 := by kernel_rfl
theorem tie146 : compF Tryz.prog ids (fun i => ([[0], [3], [3, 4], [3, 4], [3, 4], [3, 4], [3, 4], [4], [2], [2]] : List (List Nat)).getD i []) false false false false Tryz.f38 = some F146 := by kernel_rfl
theorem tie214 : compF Tryz.prog ids (fun i => ([[0, 2, 3, 5], [0, 2, 3, 5, 10], [0, 2, 3, 5, 10, 11], [8], [0, 2, 3, 5, 10, 15], [8], [0, 2, 3, 5, 10, 25], [8], [2, 3, 5, 10, 33], [8], [2, 3, 5, 10, 35], [8], [2, 3, 5, 10, 37], [8], [2, 3, 5, 10, 39], [8], [2, 3, 5, 43], [8], [8]] : List (List Nat)).getD i []) false false false false Tryz.f39 = some F214 := by kernel_rfl
theorem tie17 : compF Tryz.prog ids (fun i => ([[0, 1], [0, 1, 6], [0, 1], [4]] : List (List Nat)).getD i []) false false false false Tryz.f40 = some F17 := by kernel_rfl
theorem tie138 : compF Tryz.prog ids (fun i => ([[1, 2], [1, 2, 10], [4], [1, 2, 5, 6], [1, 2, 5, 6, 12], [1, 2, 5, 6, 12, 13], [2, 5, 6], [1, 2, 5, 6, 12, 15], [1, 2, 5, 6, 12, 15], [2, 5, 6], [1, 2, 5, 6, 12, 18], [2, 5, 6], [1, 2, 5, 6, 12, 20], [2, 5, 6], [1, 2, 5, 6, 12, 22], [1, 2, 5, 6, 22], [2, 5, 6], [4]] : List (List Nat)).getD i []) false false false false Tryz.f44 = some F138 := by kernel_rfl
theorem tie144 : compF Tryz.prog ids (fun i => ([[1, 2], [1, 2, 10], [1, 2, 10, 11], [4], [1, 2, 10, 13], [4], [1, 2, 22], [4], [4]] : List (List Nat)).getD i []) false false false false Tryz.f47 = some F144 := by kernel_rfl
theorem tie129 : compF Tryz.prog ids (fun i => ([[1, 2], [1, 2, 15], [4], [2, 5], [2, 5, 7], [2, 5, 7, 8], [2, 5, 7, 8, 28], [2, 5, 7, 8], [2, 5, 7, 8, 35], [2, 5, 7, 8, 9], [2, 5, 7, 8], [4]] : List (List Nat)).getD i []) false false false false Tryz.f48 = some F129 := by kernel_rfl
theorem tie162 : compF Tryz.prog ids (fun i => ([[0, 1, 4], [0, 1, 4, 5], [0, 1, 4, 5, 16], [0, 1, 4, 5], [0, 1, 4, 19], [0, 1, 4, 19, 20], [0, 1, 4, 19, 20], [4], [0, 1, 4, 19, 31], [0, 1, 4, 19, 31], [0, 1, 4, 19, 31], [0, 4, 6], [0, 4, 6, 7], [4], [0, 1, 4, 19, 47], [0, 4, 8], [4], [0, 1, 4, 19, 55], [0, 4, 59], [4], [4], [0, 1, 4, 64], [0, 1, 4, 9], [4], [0, 1, 4, 10], [0, 1, 4, 10, 11], [0, 1, 4, 10, 11, 12], [0, 1, 4, 10, 11, 12, 83], [4, 10, 11, 12], [4]] : List (List Nat)).getD i []) false false false false Tryz.f49 = some F162 := by kernel_rfl
theorem tie32 : compF Tryz.prog ids (fun i => ([[1], [2]] : List (List Nat)).getD i []) false false false false Tryz.f50 = some F32 := by kernel_rfl
theorem tie165 : compF Tryz.prog ids (fun i => ([[0, 2, 4], [0, 2, 4, 10], []] : List (List Nat)).getD i []) false false false false Tryz.f51 = some F165 := by kernel_rfl
theorem tie134 : compF Tryz.prog ids (fun i => ([[0], [0, 3], [4, 5], [4, 14], [2], [2]] : List (List Nat)).getD i []) false false false false Tryz.f52 = some F134 := by kernel_rfl
theorem tie166 : compF Tryz.prog ids (fun i => ([[0, 3], [0, 5], [], [0, 5, 8], [], [0, 12], []] : List (List Nat)).getD i []) false false false false Tryz.f53 = some F166 := by kernel_rfl
theorem tie167 : compF Tryz.prog ids (fun i => ([[0, 3], [0, 3], [0, 9], [], []] : List (List Nat)).getD i []) false false false false Tryz.f54 = some F167 := by kernel_rfl
theorem tie168 : compF Tryz.prog ids (fun i => ([[2, 3], [2, 3, 5], [2, 3], [2, 3], [], [2, 3, 5, 17], [], [2, 3, 5, 24], [], [2, 3, 5, 31], [2, 3, 5, 31], [2, 3], [2, 3], [], [2, 3, 45], [2, 3], [2], [2], []] : List (List Nat)).getD i []) false false false false Tryz.f55 = some F168 := by kernel_rfl
theorem tie169 : compF Tryz.prog ids (fun i => ([[2, 3], [2, 3, 6], [2, 3, 6, 7], [2, 3], [], [2, 3, 6, 21], [2, 3], [2, 3], [], [2, 3, 6, 34], [], [2, 3, 6, 41], [], [2, 3, 6, 46], [2, 3], [2], [], [2, 3, 6, 56], [], [2, 3, 60], [2, 3, 64, 65], [2, 3, 64, 65, 66], [2, 3, 4, 64, 65], [2, 3, 64, 65], [2, 3, 64, 65]] : List (List Nat)).getD i []) false false false false Tryz.f56 = some F169 := by kernel_rfl
theorem tie164 : compF Tryz.prog ids (fun i => ([[1, 2], [1, 5], [1, 5, 12], [1, 5, 12, 13], [4], [1, 5, 12, 15], [4], [1, 5, 20], [4], [4]] : List (List Nat)).getD i []) false false false false Tryz.f57 = some F164 := by kernel_rfl
theorem tie135 : compF Tryz.prog ids (fun i => ([[1, 2, 3], [1, 2, 3, 13], [1, 2, 3, 13, 14], [1, 2, 3, 13, 14], [6], [1, 2, 3, 13, 21], [6], [1, 2, 3, 13, 29], [6], [1, 2, 3, 13, 36], [6], [1, 2, 3, 13, 42], [6], [1, 2, 3, 13, 57], [6], [1, 2, 3, 61], [1, 2, 3, 7], [2, 7, 8], [2, 7, 8, 9], [2, 8, 10], [2, 10], [6], [1, 3, 11], [1, 3, 11, 109], [1, 3, 11, 109, 110], [11], [1, 3, 11, 109, 119], [11], [1, 3, 11, 109, 128], [11, 132], [11], [11], [1, 3, 11, 109, 141], [11], [11, 151], [11], [6]] : List (List Nat)).getD i []) true false false false Tryz.f58 = some F135 := by kernel_rfl
theorem tie149 : compF Tryz.prog ids (fun i => ([[0], [0, 3], [0, 3, 4], [0, 3, 4, 11], [0, 3, 4, 5], [0, 3, 4, 5], [0, 3, 4], [2]] : List (List Nat)).getD i []) false false false false Tryz.f59 = some F149 := by kernel_rfl
theorem tie150 : compF Tryz.prog ids (fun i => ([[0, 14], [0], [0, 21], []] : List (List Nat)).getD i []) false false false false Tryz.f60 = some F150 := by kernel_rfl
theorem tie151 : compF Tryz.prog ids (fun i => ([[0], [3], [3, 16], [2], [2]] : List (List Nat)).getD i []) false false false false Tryz.f61 = some F151 := by kernel_rfl
theorem tie152 : compF Tryz.prog ids (fun i => ([[], [0]] : List (List Nat)).getD i []) false false false false Tryz.f62 = some F152 := by kernel_rfl
theorem tie153 : compF Tryz.prog ids (fun i => ([[0, 1, 8], [0, 1], [0], [0, 38], []] : List (List Nat)).getD i []) false false false false Tryz.f63 = some F153 := by kernel_rfl
theorem tie154 : compF Tryz.prog ids (fun i => ([[0, 12], []] : List (List Nat)).getD i []) false false false false Tryz.f64 = some F154 := by kernel_rfl
theorem tie155 : compF Tryz.prog ids (fun i => ([[0, 1, 4], [0, 1, 4, 5], [0, 1, 4, 5], [0, 1, 4, 5, 19], [0, 1, 4, 5], [4, 5], [4]] : List (List Nat)).getD i []) false false false false Tryz.f65 = some F155 := by kernel_rfl
theorem tie28 : compF Tryz.prog ids (fun i => ([[0, 1], [0, 1, 5], [0, 1, 5, 9], [0, 1, 5], [0, 1, 5, 17], [4], [4]] : List (List Nat)).getD i []) false false false false Tryz.f66 = some F28 := by kernel_rfl
theorem tie157 : compF Tryz.prog ids (fun i => ([[0], [0, 4], [2], [6], [2], [2]] : List (List Nat)).getD i []) false false false false Tryz.f67 = some F157 := by kernel_rfl
theorem tie215 : compF Tryz.prog ids (fun i => ([[0, 1, 2], [0, 1, 2, 12], [6], [6]] : List (List Nat)).getD i []) false false false false Tryz.f68 = some F215 := by kernel_rfl
theorem tie216 : compF Tryz.prog ids (fun i => ([[0], [3], [2], [2]] : List (List Nat)).getD i []) false false false false Tryz.f69 = some F216 := by kernel_rfl
theorem tie217 : compF Tryz.prog ids (fun i => ([[0, 1, 2], [1, 2, 7], [1, 2, 7, 8], [6], [1, 2, 7, 14], [6], [1, 2, 7, 20], [6], [1, 2, 7, 28], [1, 2, 31], [6], [6], [1, 2, 7, 35], [6], [1, 2, 41], [6], [6]] : List (List Nat)).getD i []) false false false false Tryz.f70 = some F217 := by kernel_rfl
theorem tie174 : compF Tryz.prog ids (fun i => ([[0], [3], [3, 4], [2], [3, 6], [2], [3, 8], [2], [3, 10], [2], [3, 12], [3, 12], [2], [3, 15], [15], [2], [2]] : List (List Nat)).getD i []) false false false false Tryz.f71 = some F174 := by kernel_rfl
theorem tie163 : compF Tryz.prog ids (fun i => ([[0], [2]] : List (List Nat)).getD i []) false false false false Tryz.f76 = some F163 := by kernel_rfl
theorem tie176 : compF Tryz.prog ids (fun i => ([[0, 1, 5, 6], [6]] : List (List Nat)).getD i []) false false false false Tryz.f77 = some F176 := by kernel_rfl
theorem tie177 : compF Tryz.prog ids (fun i => ([[0, 1, 4], [0, 1, 4, 5], [0, 1, 4, 5, 12], [0, 1, 4, 5], [0, 1, 4, 15], [0, 1, 4, 15, 16], [0, 1, 4, 15, 16], [4], [0, 1, 4, 15, 25], [0, 1, 4, 15, 25], [4], [0, 1, 4, 15, 34], [0, 1, 4, 15, 34], [4], [0, 1, 4, 15, 43], [0, 1, 4, 15, 43], [0, 1, 4, 6], [4], [0, 1, 4, 57], [4], [0, 1, 4, 7], [0, 1, 4, 7, 8], [4]] : List (List Nat)).getD i []) false false false false Tryz.f78 = some F177 := by kernel_rfl
theorem tie178 : compF Tryz.prog ids (fun i => ([[0, 1, 6, 7, 8], [8]] : List (List Nat)).getD i []) false false false false Tryz.f79 = some F178 := by kernel_rfl
theorem tie179 : compF Tryz.prog ids (fun i => ([[0, 1, 4], [0, 1, 4, 5], [0, 1, 4, 5, 13], [0, 1, 4, 5], [0, 1, 4, 16], [0, 1, 4, 16, 17], [4], [0, 1, 4, 16, 22], [0, 1, 4, 16, 22], [0, 1, 4, 16, 22], [0, 1, 4, 16, 22], [0, 1, 4, 6], [0, 1, 4, 6, 7], [4], [0, 1, 4, 43], [4], [0, 1, 4, 8], [0, 1, 4, 8, 9], [4]] : List (List Nat)).getD i []) false false false false Tryz.f80 = some F179 := by kernel_rfl
theorem tie38 : compF Tryz.prog ids (fun i => ([[]] : List (List Nat)).getD i []) false false false false Tryz.f81 = some F38 := by kernel_rfl
theorem tie39 : compF Tryz.prog ids (fun i => ([[1, 2], [1, 2, 10], [4], [1, 12, 13, 14], [1, 12, 13, 14, 15], [1, 6, 12, 13, 14], [1, 12, 13, 14, 21], [4], [1, 12, 13, 14], [4]] : List (List Nat)).getD i []) false false false false Tryz.f82 = some F39 := by kernel_rfl
theorem tie180 : compF Tryz.prog ids (fun i => ([[0, 2, 3], [3], []] : List (List Nat)).getD i []) false false true false Tryz.f83 = some F180 := by kernel_rfl
theorem tie181 : compF Tryz.prog ids (fun i => ([[]] : List (List Nat)).getD i []) false false false false Tryz.f84 = some F181 := by kernel_rfl
theorem tie182 : compF Tryz.prog ids (fun i => ([[]] : List (List Nat)).getD i []) false false false false Tryz.f85 = some F182 := by kernel_rfl
theorem tie183 : compF Tryz.prog ids (fun i => ([[]] : List (List Nat)).getD i []) false false false false Tryz.f86 = some F183 := by kernel_rfl
theorem tie184 : compF Tryz.prog ids (fun i => ([[]] : List (List Nat)).getD i []) false false false false Tryz.f87 = some F184 := by kernel_rfl
theorem tie185 : compF Tryz.prog ids (fun i => ([[]] : List (List Nat)).getD i []) false false false false Tryz.f88 = some F185 := by kernel_rfl
theorem tie186 : compF Tryz.prog ids (fun i => ([[]] : List (List Nat)).getD i []) false false false false Tryz.f89 = some F186 := by kernel_rfl
theorem tie187 : compF Tryz.prog ids (fun i => ([[0], [3], [3, 4], [2], [3, 6], [2], [3, 8], [2], [3, 10], [2], [3, 12], [3, 12], [2], [3, 15], [15], [2], [2]] : List (List Nat)).getD i []) false false false false Tryz.f90 = some F187 := by kernel_rfl
theorem tie188 : compF Tryz.prog ids (fun i => ([[]] : List (List Nat)).getD i []) false false false false Tryz.f91 = some F188 := by kernel_rfl
theorem tie189 : compF Tryz.prog ids (fun i => ([[]] : List (List Nat)).getD i []) false false false false Tryz.f92 = some F189 := by kernel_rfl
theorem tie190 : compF Tryz.prog ids (fun i => ([[]] : List (List Nat)).getD i []) false false false false Tryz.f93 = some F190 := by kernel_rfl
theorem tie191 : compF Tryz.prog ids (fun i => ([[0, 3], [0, 3, 4], [0, 3, 4], [0, 3, 4], [0, 4], []] : List (List Nat)).getD i []) false false true false Tryz.f94 = some F191 := by kernel_rfl
theorem tie158 : compF Tryz.prog ids (fun i => ([[1, 2, 3], [1, 2, 3, 7], [1, 2, 3, 7, 8], [1, 2, 3, 7, 8, 19], [6], [1, 2, 3, 7, 8, 29], [6], [1, 2, 3, 7, 8, 9], [1, 2, 3, 7, 8, 9, 51], [1, 2, 3, 9], [3, 10], [10, 71], [10], [6]] : List (List Nat)).getD i []) true false false false Tryz.f95 = some F158 := by kernel_rfl
theorem tie159 : compF Tryz.prog ids (fun i => ([[1, 2, 3, 4, 5, 6, 7], [1, 2, 3, 4, 5, 6, 15], [3, 4, 5, 6, 15, 16], [3, 4, 5, 15, 16, 17], [15, 16, 17, 18], [15, 16, 17, 18], [15, 17, 18], [15, 18], [14]] : List (List Nat)).getD i []) true false false false Tryz.f96 = some F159 := by kernel_rfl
theorem tie160 : compF Tryz.prog ids (fun i => ([[0, 1, 2], [0, 1, 2, 7], [0, 1, 2, 7, 8], [0, 1, 2, 7, 8, 12], [0, 1, 2, 7, 8], [0, 1, 2, 7, 8], [6]] : List (List Nat)).getD i []) true false false false Tryz.f97 = some F160 := by kernel_rfl
theorem tie170 : compF Tryz.prog ids (fun i => ([[0, 1], [0, 1, 8], [0, 1, 12], [0, 1, 22], [0, 1], [0, 1, 40], [0, 1], [4]] : List (List Nat)).getD i []) false false false false Tryz.f98 = some F170 := by kernel_rfl
theorem tie171 : compF Tryz.prog ids (fun i => ([[0, 1, 4], [0, 1, 4, 11], [4], [0, 1, 4, 5], [0, 1, 4, 5, 19], [0, 1, 4, 5, 35], [0, 1, 4, 5], [1, 4, 5, 6], [4, 6, 53], [4, 6], [4], [0, 1, 4, 5, 59], [0, 1, 4, 5, 69], [0, 1, 4, 5], [4, 7], [4, 7, 81], [4, 7], [4], [0, 1, 4, 5, 100], [4], [0, 1, 4, 5, 113], [4], [4]] : List (List Nat)).getD i []) false false false false Tryz.f99 = some F171 := by kernel_rfl
theorem tie172 : compF Tryz.prog ids (fun i => ([[0, 1, 20], [0, 1], []] : List (List Nat)).getD i []) false false false false Tryz.f100 = some F172 := by kernel_rfl
theorem tie173 : compF Tryz.prog ids (fun i => ([[0, 1, 4], [0, 1, 4, 5], [0, 1, 4, 5, 19], [0, 1, 4, 5], [0, 1, 4, 5, 6], [0, 1, 4, 5, 7], [0, 1, 4, 7, 32], [4], [0, 1, 4, 7, 8], [0, 1, 4, 7, 8, 45], [0, 1, 4, 7, 8], [4, 7, 8], [4], [0, 1, 4, 5, 9], [0, 1, 4, 5, 9, 59], [0, 4, 9], [0, 4, 9], [0, 1, 4, 5, 9, 64], [0, 1, 4, 9], [0, 1, 4, 9, 10], [0, 1, 4, 9, 10], [0, 4, 9], [0, 1, 4, 5, 9, 79], [0, 1, 4, 5, 9], [0, 1, 4, 5, 9, 11], [0, 1, 4, 5, 9, 11], [0, 4, 9], [0, 1, 4, 5, 9, 109], [0, 1, 4, 5, 9], [0, 1, 4, 5, 9], [0, 4, 9], [4, 9], [4], [4, 9], [4]] : List (List Nat)).getD i []) false false false false Tryz.f101 = some F173 := by kernel_rfl
theorem tie200 : compF Tryz.prog ids (fun i => ([[0, 1], [0, 1, 5], [0, 1], [0], [4]] : List (List Nat)).getD i []) false false true false Tryz.f102 = some F200 := by kernel_rfl
theorem tie201 : compF Tryz.prog ids (fun i => ([[1, 2], [2, 5], [4]] : List (List Nat)).getD i []) false false false false Tryz.f103 = some F201 := by kernel_rfl
theorem tie175 : compF Tryz.prog ids (fun i => ([[0, 1, 2, 3], [0, 1, 2, 3, 11], [8], [8]] : List (List Nat)).getD i []) true false false false Tryz.f104 = some F175 := by kernel_rfl
theorem tie192 : compF Tryz.prog ids (fun i => ([[0], [2]] : List (List Nat)).getD i []) false false false false Tryz.f105 = some F192 := by kernel_rfl
theorem tie193 : compF Tryz.prog ids (fun i => ([[0], [2]] : List (List Nat)).getD i []) false false false false Tryz.f106 = some F193 := by kernel_rfl
theorem tie194 : compF Tryz.prog ids (fun i => ([[0], [2]] : List (List Nat)).getD i []) false false false false Tryz.f107 = some F194 := by kernel_rfl
theorem tie195 : compF Tryz.prog ids (fun i => ([[0], [0, 3], [0, 3, 4], [0, 3, 4, 8], [0, 3, 4], [0, 3, 4], [0, 3, 4, 20], [2], [2]] : List (List Nat)).getD i []) false false false false Tryz.f108 = some F195 := by kernel_rfl
theorem tie196 : compF Tryz.prog ids (fun i => ([[0, 1], [0, 1, 5], [0, 1, 5, 9], [0, 1, 5], [0, 1, 5, 17], [4], [4]] : List (List Nat)).getD i []) false false false false Tryz.f109 = some F196 := by kernel_rfl
theorem tie197 : compF Tryz.prog ids (fun i => ([[0, 1, 2, 6], [0, 1, 2, 6, 15], [6], [0, 1, 2, 6, 7], [0, 1, 2, 6, 7, 24], [6], [0, 1, 2, 6, 7, 30], [6], [0, 1, 2, 6, 7, 39], [6], [0, 1, 2, 6, 7, 45], [6], [0, 1, 2, 6, 7, 50], [6], [0, 1, 6, 7, 56], [0, 1, 6], [0, 6, 8], [6, 8], [6], [0, 1, 6, 7, 73], [6], [6], [0, 1, 6, 7, 79], [6, 7], [6], [0, 1, 6, 7, 90], [6, 7], [6, 7, 9], [6, 9, 94], [6, 9], [6], [0, 1, 6, 7, 106], [6, 7], [6], [0, 1, 6, 7, 112], [0, 1, 6, 7], [6, 7, 10], [6], [0, 6, 7, 129], [6, 7], [6], [6], [6]] : List (List Nat)).getD i []) false false false false Tryz.f110 = some F197 := by kernel_rfl
theorem tie198 : compF Tryz.prog ids (fun i => ([[0], [2]] : List (List Nat)).getD i []) false false false false Tryz.f111 = some F198 := by kernel_rfl
theorem tie199 : compF Tryz.prog ids (fun i => ([[0, 1, 4], [0, 1, 4], [0, 4, 5], [4, 5], [4]] : List (List Nat)).getD i []) false false false false Tryz.f112 = some F199 := by kernel_rfl
theorem tie204 : compF Tryz.prog ids (fun i => ([[]] : List (List Nat)).getD i []) false true false false Tryz.f113 = some F204 := by kernel_rfl
theorem tie202 : compF Tryz.prog ids (fun i => ([[0, 1, 2, 3, 8], [0, 1, 2, 3, 8], [1, 8, 9], [8]] : List (List Nat)).getD i []) false false false false Tryz.f114 = some F202 := by kernel_rfl
theorem tie203 : compF Tryz.prog ids (fun i => ([[0, 1, 2, 6], [0, 1, 2, 6, 7], [0, 1, 2, 6, 7, 8], [0, 1, 2, 6, 7, 8, 35], [0, 1, 2, 6, 7, 8, 9], [0, 1, 2, 6, 7, 8, 9], [0, 1, 2, 6, 7, 8, 9, 10], [0, 1, 2, 6, 7, 8], [0, 1, 2, 6, 7, 8, 51], [6]] : List (List Nat)).getD i []) false false false false Tryz.f115 = some F203 := by kernel_rfl
def fid : Fid := ⟨fidF, fun N c pc => 2 * N <= dkey /\ ∃ K ow d, comp Tryz.prog (ids.with ow d) N K c = some pc, fidT, fun g t nm => ∃ f, methT Tryz.prog t nm = some f /\ ids.fn f = some g, ids.gl⟩
theorem hid : Ties Tryz.prog ids fid := by
 refine ⟨fun f g h => ?_, fun t u h => ?_, fun _ _ _ => Iff.rfl, fun _ _ h => h⟩
 · simp only [ids, idsF] at h
   split at h <;> first | (cases h; rfl) | cases h
 · simp only [ids, idsT] at h
   first | cases h | (split at h <;> first | (cases h; rfl) | cases h)
theorem hcr : Codes Tryz.prog ids fid := fun _ _ _ => Iff.rfl
theorem mixed : Tryz.prog.follows .mixedOrders = true := by kernel_rfl
theorem tied : Tied Tryz.prog ids fid prog15z := fun f pf h => by
 unfold prog15z at h
 split at h
 · cases h; exact ⟨Tryz.f23, _, _, _, _, Tryz.func23, tie15⟩
 · cases h; exact ⟨Tryz.f9, _, _, _, _, Tryz.func9, tie16⟩
 · cases h; exact ⟨Tryz.f40, _, _, _, _, Tryz.func40, tie17⟩
 · cases h; exact ⟨Tryz.f20, _, _, _, _, Tryz.func20, tie23⟩
 · cases h; exact ⟨Tryz.f66, _, _, _, _, Tryz.func66, tie28⟩
 · cases h; exact ⟨Tryz.f50, _, _, _, _, Tryz.func50, tie32⟩
 · cases h; exact ⟨Tryz.f31, _, _, _, _, Tryz.func31, tie33⟩
 · cases h; exact ⟨Tryz.f81, _, _, _, _, Tryz.func81, tie38⟩
 · cases h; exact ⟨Tryz.f82, _, _, _, _, Tryz.func82, tie39⟩
 · cases h; exact ⟨Tryz.f13, _, _, _, _, Tryz.func13, tie58⟩
 · cases h; exact ⟨Tryz.f28, _, _, _, _, Tryz.func28, tie122⟩
 · cases h; exact ⟨Tryz.f5, _, _, _, _, Tryz.func5, tie123⟩
 · cases h; exact ⟨Tryz.f16, _, _, _, _, Tryz.func16, tie125⟩
 · cases h; exact ⟨Tryz.f8, _, _, _, _, Tryz.func8, tie127⟩
 · cases h; exact ⟨Tryz.f18, _, _, _, _, Tryz.func18, tie128⟩
 · cases h; exact ⟨Tryz.f48, _, _, _, _, Tryz.func48, tie129⟩
 · cases h; exact ⟨Tryz.f6, _, _, _, _, Tryz.func6, tie131⟩
 · cases h; exact ⟨Tryz.f29, _, _, _, _, Tryz.func29, tie132⟩
 · cases h; exact ⟨Tryz.f30, _, _, _, _, Tryz.func30, tie133⟩
 · cases h; exact ⟨Tryz.f52, _, _, _, _, Tryz.func52, tie134⟩
 · cases h; exact ⟨Tryz.f58, _, _, _, _, Tryz.func58, tie135⟩
 · cases h; exact ⟨Tryz.f21, _, _, _, _, Tryz.func21, tie136⟩
 · cases h; exact ⟨Tryz.f22, _, _, _, _, Tryz.func22, tie137⟩
 · cases h; exact ⟨Tryz.f44, _, _, _, _, Tryz.func44, tie138⟩
 · cases h; exact ⟨Tryz.f26, _, _, _, _, Tryz.func26, tie139⟩
 · cases h; exact ⟨Tryz.f27, _, _, _, _, Tryz.func27, tie140⟩
 · cases h; exact ⟨Tryz.f19, _, _, _, _, Tryz.func19, tie142⟩
 · cases h; exact ⟨Tryz.f47, _, _, _, _, Tryz.func47, tie144⟩
 · cases h; exact ⟨Tryz.f37, _, _, _, _, Tryz.func37, tie145⟩
 · cases h; exact ⟨Tryz.f38, _, _, _, _, Tryz.func38, tie146⟩
 · cases h; exact ⟨Tryz.f24, _, _, _, _, Tryz.func24, tie147⟩
 · cases h; exact ⟨Tryz.f25, _, _, _, _, Tryz.func25, tie148⟩
 · cases h; exact ⟨Tryz.f59, _, _, _, _, Tryz.func59, tie149⟩
 · cases h; exact ⟨Tryz.f60, _, _, _, _, Tryz.func60, tie150⟩
 · cases h; exact ⟨Tryz.f61, _, _, _, _, Tryz.func61, tie151⟩
 · cases h; exact ⟨Tryz.f62, _, _, _, _, Tryz.func62, tie152⟩
 · cases h; exact ⟨Tryz.f63, _, _, _, _, Tryz.func63, tie153⟩
 · cases h; exact ⟨Tryz.f64, _, _, _, _, Tryz.func64, tie154⟩
 · cases h; exact ⟨Tryz.f65, _, _, _, _, Tryz.func65, tie155⟩
 · cases h; exact ⟨Tryz.f34, _, _, _, _, Tryz.func34, tie156⟩
 · cases h; exact ⟨Tryz.f67, _, _, _, _, Tryz.func67, tie157⟩
 · cases h; exact ⟨Tryz.f95, _, _, _, _, Tryz.func95, tie158⟩
 · cases h; exact ⟨Tryz.f96, _, _, _, _, Tryz.func96, tie159⟩
 · cases h; exact ⟨Tryz.f97, _, _, _, _, Tryz.func97, tie160⟩
 · cases h; exact ⟨Tryz.f36, _, _, _, _, Tryz.func36, tie161⟩
 · cases h; exact ⟨Tryz.f49, _, _, _, _, Tryz.func49, tie162⟩
 · cases h; exact ⟨Tryz.f76, _, _, _, _, Tryz.func76, tie163⟩
 · cases h; exact ⟨Tryz.f57, _, _, _, _, Tryz.func57, tie164⟩
 · cases h; exact ⟨Tryz.f51, _, _, _, _, Tryz.func51, tie165⟩
 · cases h; exact ⟨Tryz.f53, _, _, _, _, Tryz.func53, tie166⟩
 · cases h; exact ⟨Tryz.f54, _, _, _, _, Tryz.func54, tie167⟩
 · cases h; exact ⟨Tryz.f55, _, _, _, _, Tryz.func55, tie168⟩
 · cases h; exact ⟨Tryz.f56, _, _, _, _, Tryz.func56, tie169⟩
 · cases h; exact ⟨Tryz.f98, _, _, _, _, Tryz.func98, tie170⟩
 · cases h; exact ⟨Tryz.f99, _, _, _, _, Tryz.func99, tie171⟩
 · cases h; exact ⟨Tryz.f100, _, _, _, _, Tryz.func100, tie172⟩
 · cases h; exact ⟨Tryz.f101, _, _, _, _, Tryz.func101, tie173⟩
 · cases h; exact ⟨Tryz.f71, _, _, _, _, Tryz.func71, tie174⟩
 · cases h; exact ⟨Tryz.f104, _, _, _, _, Tryz.func104, tie175⟩
 · cases h; exact ⟨Tryz.f77, _, _, _, _, Tryz.func77, tie176⟩
 · cases h; exact ⟨Tryz.f78, _, _, _, _, Tryz.func78, tie177⟩
 · cases h; exact ⟨Tryz.f79, _, _, _, _, Tryz.func79, tie178⟩
 · cases h; exact ⟨Tryz.f80, _, _, _, _, Tryz.func80, tie179⟩
 · cases h; exact ⟨Tryz.f83, _, _, _, _, Tryz.func83, tie180⟩
 · cases h; exact ⟨Tryz.f84, _, _, _, _, Tryz.func84, tie181⟩
 · cases h; exact ⟨Tryz.f85, _, _, _, _, Tryz.func85, tie182⟩
 · cases h; exact ⟨Tryz.f86, _, _, _, _, Tryz.func86, tie183⟩
 · cases h; exact ⟨Tryz.f87, _, _, _, _, Tryz.func87, tie184⟩
 · cases h; exact ⟨Tryz.f88, _, _, _, _, Tryz.func88, tie185⟩
 · cases h; exact ⟨Tryz.f89, _, _, _, _, Tryz.func89, tie186⟩
 · cases h; exact ⟨Tryz.f90, _, _, _, _, Tryz.func90, tie187⟩
 · cases h; exact ⟨Tryz.f91, _, _, _, _, Tryz.func91, tie188⟩
 · cases h; exact ⟨Tryz.f92, _, _, _, _, Tryz.func92, tie189⟩
 · cases h; exact ⟨Tryz.f93, _, _, _, _, Tryz.func93, tie190⟩
 · cases h; exact ⟨Tryz.f94, _, _, _, _, Tryz.func94, tie191⟩
 · cases h; exact ⟨Tryz.f105, _, _, _, _, Tryz.func105, tie192⟩
 · cases h; exact ⟨Tryz.f106, _, _, _, _, Tryz.func106, tie193⟩
 · cases h; exact ⟨Tryz.f107, _, _, _, _, Tryz.func107, tie194⟩
 · cases h; exact ⟨Tryz.f108, _, _, _, _, Tryz.func108, tie195⟩
 · cases h; exact ⟨Tryz.f109, _, _, _, _, Tryz.func109, tie196⟩
 · cases h; exact ⟨Tryz.f110, _, _, _, _, Tryz.func110, tie197⟩
 · cases h; exact ⟨Tryz.f111, _, _, _, _, Tryz.func111, tie198⟩
 · cases h; exact ⟨Tryz.f112, _, _, _, _, Tryz.func112, tie199⟩
 · cases h; exact ⟨Tryz.f102, _, _, _, _, Tryz.func102, tie200⟩
 · cases h; exact ⟨Tryz.f103, _, _, _, _, Tryz.func103, tie201⟩
 · cases h; exact ⟨Tryz.f114, _, _, _, _, Tryz.func114, tie202⟩
 · cases h; exact ⟨Tryz.f115, _, _, _, _, Tryz.func115, tie203⟩
 · cases h; exact ⟨Tryz.f113, _, _, _, _, Tryz.func113, tie204⟩
 · cases h; exact ⟨Tryz.f3, _, _, _, _, Tryz.func3, tie205⟩
 · cases h; exact ⟨Tryz.f7, _, _, _, _, Tryz.func7, tie207⟩
 · cases h; exact ⟨Tryz.f10, _, _, _, _, Tryz.func10, tie208⟩
 · cases h; exact ⟨Tryz.f11, _, _, _, _, Tryz.func11, tie209⟩
 · cases h; exact ⟨Tryz.f12, _, _, _, _, Tryz.func12, tie210⟩
 · cases h; exact ⟨Tryz.f32, _, _, _, _, Tryz.func32, tie211⟩
 · cases h; exact ⟨Tryz.f33, _, _, _, _, Tryz.func33, tie212⟩
 · cases h; exact ⟨Tryz.f35, _, _, _, _, Tryz.func35, tie213⟩
 · cases h; exact ⟨Tryz.f39, _, _, _, _, Tryz.func39, tie214⟩
 · cases h; exact ⟨Tryz.f68, _, _, _, _, Tryz.func68, tie215⟩
 · cases h; exact ⟨Tryz.f69, _, _, _, _, Tryz.func69, tie216⟩
 · cases h; exact ⟨Tryz.f70, _, _, _, _, Tryz.func70, tie217⟩
 · cases h
theorem glb {w : World} (h : laidMet Tryz.prog [("arenanet/compile.effects", Rows.laid_arenanet_compile_effects)] w) : GlbAt fid w := fun g cs hg => by
 simp only [fid, ids, idsG] at hg
 split at hg
 · cases hg
   exact ⟨(effRows15.flatten.map (Value.int .i64)), glb_of_laid (P := Tryz.prog) (n := "arenanet/compile.effects") (d := Rows.laid_arenanet_compile_effects) (g := 0) (t := 100) (vs := (effRows15.flatten.map (Value.int .i64))) (m := 4) (by kernel_rfl) (by kernel_rfl) (by kernel_rfl) (by kernel_rfl) h⟩
 · cases hg
end Go.Proofs.YtdnnjabacgpfdaaGreatDoor.T
end ST3z
