/- The given program, held against the abstract one: function by function, by the kernel. -/
import Derived.Test.YtjdbkncfebebnaaGreatDoorRows
import Derived.Test.YtjdbkncfebebnaaGreatDoorPmY
import Derived.Test.YtjdbkncfebebnaaGreatDoorPmMa
import Derived.KernelRfl
set_option linter.unusedSimpArgs false
set_option linter.unusedVariables false
section ST13z
namespace Go.Proofs.YtjdbkncfebebnaaGreatDoor.T
open Go.Pm Go.Pm.F
def idsF : FuncId → Option Nat := fun f => match f with
  | 4 => some 311
  | 6 => some 227
  | 10 => some 229
  | 11 => some 314
  | 12 => some 228
  | 13 => some 232
  | 14 => some 231
  | 15 => some 123
  | 19 => some 236
  | 20 => some 17
  | 23 => some 149
  | 24 => some 239
  | 25 => some 240
  | 26 => some 241
  | 27 => some 242
  | 28 => some 235
  | 29 => some 243
  | 30 => some 244
  | 31 => some 245
  | 32 => some 23
  | 33 => some 136
  | 34 => some 137
  | 42 => some 247
  | 43 => some 152
  | 44 => some 248
  | 51 => some 170
  | 52 => some 171
  | 53 => some 249
  | 54 => some 250
  | 55 => some 251
  | 56 => some 252
  | 57 => some 253
  | 58 => some 254
  | 59 => some 255
  | 60 => some 256
  | 61 => some 257
  | 62 => some 258
  | 63 => some 259
  | 64 => some 260
  | 65 => some 162
  | 75 => some 262
  | 76 => some 263
  | 79 => some 192
  | 80 => some 193
  | 81 => some 194
  | 82 => some 195
  | 83 => some 196
  | 84 => some 264
  | 85 => some 265
  | 86 => some 266
  | 87 => some 267
  | 88 => some 268
  | 89 => some 269
  | 90 => some 270
  | 91 => some 271
  | 92 => some 272
  | 93 => some 273
  | 94 => some 274
  | 95 => some 176
  | 96 => some 177
  | 97 => some 178
  | 98 => some 179
  | 114 => some 234
  | 116 => some 198
  | 118 => some 275
  | 119 => some 276
  | 120 => some 277
  | 121 => some 278
  | 122 => some 279
  | 123 => some 280
  | 124 => some 281
  | 126 => some 282
  | 127 => some 283
  | 130 => some 246
  | 134 => some 284
  | 135 => some 285
  | 136 => some 286
  | 137 => some 287
  | 138 => some 288
  | 140 => some 261
  | 141 => some 20
  | 142 => some 289
  | 143 => some 290
  | 144 => some 291
  | 145 => some 292
  | 146 => some 293
  | 147 => some 294
  | 148 => some 295
  | 149 => some 296
  | 150 => some 297
  | 151 => some 298
  | 152 => some 299
  | 153 => some 300
  | 156 => some 303
  | 157 => some 304
  | 160 => some 307
  | 161 => some 308
  | 162 => some 309
  | _ => none
def idsT : TypeId → Option Nat := fun t => match t with
  | 36 => some 1
  | 9 => some 2
  | 5 => some 3
  | 78 => some 4
  | _ => none
def idsG : Nat → Option (List D) := fun g => match g with
  | 2 => some G_internal_strconv_uint64pow10
  | _ => none
def ids : Ids := ⟨idsF, idsT, idsG, false, false⟩
def fidF : Nat → FuncId := fun k => match k with
  | 311 => 4
  | 227 => 6
  | 229 => 10
  | 314 => 11
  | 228 => 12
  | 232 => 13
  | 231 => 14
  | 123 => 15
  | 236 => 19
  | 17 => 20
  | 149 => 23
  | 239 => 24
  | 240 => 25
  | 241 => 26
  | 242 => 27
  | 235 => 28
  | 243 => 29
  | 244 => 30
  | 245 => 31
  | 23 => 32
  | 136 => 33
  | 137 => 34
  | 247 => 42
  | 152 => 43
  | 248 => 44
  | 170 => 51
  | 171 => 52
  | 249 => 53
  | 250 => 54
  | 251 => 55
  | 252 => 56
  | 253 => 57
  | 254 => 58
  | 255 => 59
  | 256 => 60
  | 257 => 61
  | 258 => 62
  | 259 => 63
  | 260 => 64
  | 162 => 65
  | 262 => 75
  | 263 => 76
  | 192 => 79
  | 193 => 80
  | 194 => 81
  | 195 => 82
  | 196 => 83
  | 264 => 84
  | 265 => 85
  | 266 => 86
  | 267 => 87
  | 268 => 88
  | 269 => 89
  | 270 => 90
  | 271 => 91
  | 272 => 92
  | 273 => 93
  | 274 => 94
  | 176 => 95
  | 177 => 96
  | 178 => 97
  | 179 => 98
  | 234 => 114
  | 198 => 116
  | 275 => 118
  | 276 => 119
  | 277 => 120
  | 278 => 121
  | 279 => 122
  | 280 => 123
  | 281 => 124
  | 282 => 126
  | 283 => 127
  | 246 => 130
  | 284 => 134
  | 285 => 135
  | 286 => 136
  | 287 => 137
  | 288 => 138
  | 261 => 140
  | 20 => 141
  | 289 => 142
  | 290 => 143
  | 291 => 144
  | 292 => 145
  | 293 => 146
  | 294 => 147
  | 295 => 148
  | 296 => 149
  | 297 => 150
  | 298 => 151
  | 299 => 152
  | 300 => 153
  | 303 => 156
  | 304 => 157
  | 307 => 160
  | 308 => 161
  | 309 => 162
  | _ => 0
def fidT : Nat → TypeId := fun k => match k with
  | 1 => 36
  | 2 => 9
  | 3 => 5
  | 4 => 78
  | _ => 0

theorem tie311 : compF Tryz.prog ids (fun i => ([[0, 1], [1, 5], [5, 6], [5, 6, 7, 9], [5, 6, 7, 25], [4], [5, 6, 7, 28], [4], [5, 7, 10, 12], [4]] : List (List Nat)).getD i []) false false false false Tryz.f4 = some F311 := by kernel_rfl
theorem tie227 : compF Tryz.prog ids (fun i => ([[0], [2]] : List (List Nat)).getD i []) false false false false Tryz.f6 = some F227 := by kernel_rfl
theorem tie229 : compF Tryz.prog ids (fun i => ([[], [1, 2, 3], [1, 2, 3, 5, 6], [1, 2, 3, 5, 6, 22], [0], [0]] : List (List Nat)).getD i []) false false false false Tryz.f10 = some F229 := by kernel_rfl
theorem tie314 : compF Tryz.prog ids (fun i => ([[0, 1], [1, 5], [1, 5, 6], [1, 5, 6, 7], [1, 5, 6, 7, 14], [1, 5, 6, 7], [1, 5, 6, 7, 8], [1, 5, 6, 7, 8, 20], [1, 5, 6, 7, 8], [1, 5, 6, 7], [4]] : List (List Nat)).getD i []) false false false false Tryz.f11 = some F314 := by kernel_rfl
theorem tie228 : compF Tryz.prog ids (fun i => ([[0, 2, 3, 4], [0, 2, 3, 4, 9], [2, 3, 4], [2, 3, 4, 5], [2, 3, 4, 5], [2, 3, 4, 5, 19], [5, 6], [], [2, 3, 4]] : List (List Nat)).getD i []) false false true false Tryz.f12 = some F228 := by kernel_rfl
theorem tie232 : compF Tryz.prog ids (fun i => ([[2, 3], [4]] : List (List Nat)).getD i []) false false false false Tryz.f13 = some F232 := by kernel_rfl
theorem tie231 : compF Tryz.prog ids (fun i => ([[1], [1, 3], [1, 3, 8, 9], [1, 3, 8, 9, 10], [1, 3, 4, 5, 8, 9], [1, 3, 4, 5, 8, 9, 18], [1, 3, 4, 8, 9], [1, 3, 8, 9], [1, 3, 8, 9], [2]] : List (List Nat)).getD i []) false true false false Tryz.f14 = some F231 := by kernel_rfl
theorem tie123 : compF Tryz.prog ids (fun i => ([[0, 2], [2, 3], [2, 3, 4], [2, 3, 4, 5], [2, 3, 4, 5, 11], [2, 3, 4, 5], [2, 3, 4, 5, 16], [2, 3, 4, 5], [2]] : List (List Nat)).getD i []) false false false false Tryz.f15 = some F123 := by kernel_rfl
theorem tie236 : compF Tryz.prog ids (fun i => ([[1], [1, 3], [1, 3, 4], [1, 3, 4, 6], [1, 3, 4], [1, 3, 4, 14], [1, 3, 4], [2]] : List (List Nat)).getD i []) false false false false Tryz.f19 = some F236 := by kernel_rfl
theorem tie17 : compF Tryz.prog ids (fun i => ([[0, 1], [0, 1, 6], [0, 1], [4]] : List (List Nat)).getD i []) false false false false Tryz.f20 = some F17 := by kernel_rfl
theorem tie149 : compF Tryz.prog ids (fun i => ([[0], [0, 3], [0, 3, 4], [0, 3, 4, 11], [0, 3, 4, 5], [0, 3, 4, 5], [0, 3, 4], [2]] : List (List Nat)).getD i []) false false false false Tryz.f23 = some F149 := by kernel_rfl
theorem tie239 : compF Tryz.prog ids (fun i => ([[0, 2], [2]] : List (List Nat)).getD i []) false false false false Tryz.f24 = some F239 := by kernel_rfl
theorem tie240 : compF Tryz.prog ids (fun i => ([[0, 1, 2, 3, 5], []] : List (List Nat)).getD i []) false false false true Tryz.f25 = some F240 := by kernel_rfl
theorem tie241 : compF Tryz.prog ids (fun i => ([[1], [2]] : List (List Nat)).getD i []) false false false false Tryz.f26 = some F241 := by kernel_rfl
theorem tie242 : compF Tryz.prog ids (fun i => ([[0, 2], [0, 2, 3], [0, 2, 3, 8], [0, 2, 3], [0, 2, 3, 4], [0, 2, 3, 4, 18], [0, 2, 3, 4], [0, 2, 3, 4], [0, 2, 3], [2]] : List (List Nat)).getD i []) false false false false Tryz.f27 = some F242 := by kernel_rfl
theorem tie235 : compF Tryz.prog ids (fun i => ([[2, 3], [2, 3, 33], [4], [2, 3, 36, 37], [2, 3, 36, 37, 38], [2, 3, 5, 36, 37], [2, 3, 36, 37, 51], [4], [2, 3, 36, 37], [4]] : List (List Nat)).getD i []) false false false false Tryz.f28 = some F235 := by kernel_rfl
theorem tie243 : compF Tryz.prog ids (fun i => ([[0, 6, 7, 8], [0, 6, 7, 8, 9], [0, 5, 6, 7, 8], [0, 5, 6, 7, 8, 13], [0, 5, 6, 7, 8, 23], [0, 5, 6, 7, 8], [0, 5, 6, 7, 8], [0, 6, 7, 8], [0, 6, 7, 8]] : List (List Nat)).getD i []) false false false false Tryz.f29 = some F243 := by kernel_rfl
theorem tie244 : compF Tryz.prog ids (fun i => ([[0, 3], [0, 3], [0, 10, 11, 12], [0, 10, 11, 12, 13], [0, 5, 10, 11, 12], [0, 10, 11, 12], [0, 10, 11, 12], []] : List (List Nat)).getD i []) false false false false Tryz.f30 = some F244 := by kernel_rfl
theorem tie245 : compF Tryz.prog ids (fun i => ([[0], [2]] : List (List Nat)).getD i []) false true false false Tryz.f31 = some F245 := by kernel_rfl
theorem tie23 : compF Tryz.prog ids (fun i => ([[0, 1], [0, 1, 5], [4]] : List (List Nat)).getD i []) false false false false Tryz.f32 = some F23 := by kernel_rfl
theorem tie136 : compF Tryz.prog ids (fun i => ([[0, 1], [0, 1, 15], [4], [0, 1, 5], [1, 5], [4]] : List (List Nat)).getD i []) false false false false Tryz.f33 = some F136 := by kernel_rfl
theorem tie137 : compF Tryz.prog ids (fun i => ([[0, 1, 2, 6], [0, 1, 2, 6, 7], [0, 1, 6, 7, 8], [0, 1, 6, 7, 8, 15], [0, 1, 6, 7, 8], [0, 1, 6, 7, 8], [6]] : List (List Nat)).getD i []) false false false false Tryz.f34 = some F137 := by kernel_rfl
theorem tie247 : compF Tryz.prog ids (fun i => ([[0], [0, 3], [0, 3, 4], [0, 3, 4, 8], [0, 3, 4], [0, 3, 4], [2]] : List (List Nat)).getD i []) false false false false Tryz.f42 = some F247 := by kernel_rfl
theorem tie152 : compF Tryz.prog ids (fun i => ([[], [0]] : List (List Nat)).getD i []) false false false false Tryz.f43 = some F152 := by kernel_rfl
theorem tie248 : compF Tryz.prog ids (fun i => ([[1], [1, 3], [1, 3, 4], [1, 3, 4, 9], [1, 3, 4], [1, 3, 4], [2]] : List (List Nat)).getD i []) false false false false Tryz.f44 = some F248 := by kernel_rfl
theorem tie170 : compF Tryz.prog ids (fun i => ([[0, 1], [0, 1, 8], [0, 1, 12], [0, 1, 22], [0, 1], [0, 1, 40], [0, 1], [4]] : List (List Nat)).getD i []) false false false false Tryz.f51 = some F170 := by kernel_rfl
theorem tie171 : compF Tryz.prog ids (fun i => ([[0, 1, 4], [0, 1, 4, 11], [4], [0, 1, 4, 5], [0, 1, 4, 5, 19], [0, 1, 4, 5, 35], [0, 1, 4, 5], [1, 4, 5, 6], [4, 6, 53], [4, 6], [4], [0, 1, 4, 5, 59], [0, 1, 4, 5, 69], [0, 1, 4, 5], [4, 7], [4, 7, 81], [4, 7], [4], [0, 1, 4, 5, 100], [4], [0, 1, 4, 5, 113], [4], [4]] : List (List Nat)).getD i []) false false false false Tryz.f52 = some F171 := by kernel_rfl
theorem tie249 : compF Tryz.prog ids (fun i => ([[0, 1, 3], [0, 1, 4], [0, 1, 4, 23], [0, 1, 3]] : List (List Nat)).getD i []) false false false false Tryz.f53 = some F249 := by kernel_rfl
theorem tie250 : compF Tryz.prog ids (fun i => ([[0, 1, 4], [0, 1, 4, 13], [4], [0, 1, 4, 5], [0, 1, 4, 5, 22], [4], [0, 1, 4, 28], [4], [0, 1, 4, 41], [0, 1, 4, 6], [0, 1, 4, 6, 50], [0, 1, 4, 6, 50, 51], [0, 1, 4, 6, 50, 51], [0, 1, 4, 6, 50, 51], [0, 1, 4, 6, 50, 51], [0, 1, 4, 6, 50, 51], [0, 1, 4, 6, 51], [4], [0, 1, 4, 68], [4], [4]] : List (List Nat)).getD i []) false false false false Tryz.f54 = some F250 := by kernel_rfl
theorem tie251 : compF Tryz.prog ids (fun i => ([[0, 1], [0, 1, 5], [0, 1, 5, 13], [0, 1, 5], [0, 1, 5, 6], [4], [0, 1, 5, 6, 23], [0, 1, 5], [0, 1, 5, 6, 26], [0, 1, 36], [0, 1, 5], [4]] : List (List Nat)).getD i []) false false false false Tryz.f55 = some F251 := by kernel_rfl
theorem tie252 : compF Tryz.prog ids (fun i => ([[0, 2], [0, 2, 3], [0, 2, 3, 16], [2, 3], [2]] : List (List Nat)).getD i []) false false false false Tryz.f56 = some F252 := by kernel_rfl
theorem tie253 : compF Tryz.prog ids (fun i => ([[0, 8], [0], []] : List (List Nat)).getD i []) false false false false Tryz.f57 = some F253 := by kernel_rfl
theorem tie254 : compF Tryz.prog ids (fun i => ([[0], [0, 3], [0, 3, 7], [0, 3, 7, 8], [2], [0, 3, 7, 10], [2], [0, 3, 12], [2], [], [2]] : List (List Nat)).getD i []) false false false false Tryz.f58 = some F254 := by kernel_rfl
theorem tie255 : compF Tryz.prog ids (fun i => ([[0, 2, 4], [2], []] : List (List Nat)).getD i []) false false false false Tryz.f59 = some F255 := by kernel_rfl
theorem tie256 : compF Tryz.prog ids (fun i => ([[0, 1, 4], [0, 1, 4], [0, 1, 4, 5], [0, 1, 4, 5, 13], [0, 1, 4, 5], [4, 5], [4]] : List (List Nat)).getD i []) false false false false Tryz.f60 = some F256 := by kernel_rfl
theorem tie257 : compF Tryz.prog ids (fun i => ([[0], [2]] : List (List Nat)).getD i []) false false false false Tryz.f61 = some F257 := by kernel_rfl
theorem tie258 : compF Tryz.prog ids (fun i => ([[0, 1], [0, 1], [], [4]] : List (List Nat)).getD i []) false true false false Tryz.f62 = some F258 := by kernel_rfl
theorem tie259 : compF Tryz.prog ids (fun i => ([[0, 1], [0, 1], [1], [4, 5]] : List (List Nat)).getD i []) false true false false Tryz.f63 = some F259 := by kernel_rfl
theorem tie260 : compF Tryz.prog ids (fun i => ([[0, 3], [0, 3, 6], [0, 3, 6, 7], [0, 3], [0], [], [0, 3, 6, 21], [0, 3], [0, 3], [0, 3], [0], [], [0, 3, 6, 42], [0, 3], [0, 3], [0, 3], [0, 4], [0, 4, 60], [0, 4], [], [0, 3, 6, 67], [0, 3], [0, 3], [], [0, 3, 6, 80], [0, 3], [0, 3], [0, 3], [0], [], [0, 99], []] : List (List Nat)).getD i []) false false false false Tryz.f64 = some F260 := by kernel_rfl
theorem tie162 : compF Tryz.prog ids (fun i => ([[0, 1, 4], [0, 1, 4, 5], [0, 1, 4, 5, 16], [0, 1, 4, 5], [0, 1, 4, 19], [0, 1, 4, 19, 20], [0, 1, 4, 19, 20], [4], [0, 1, 4, 19, 31], [0, 1, 4, 19, 31], [0, 1, 4, 19, 31], [0, 4, 6], [0, 4, 6, 7], [4], [0, 1, 4, 19, 47], [0, 4, 8], [4], [0, 1, 4, 19, 55], [0, 4, 59], [4], [4], [0, 1, 4, 64], [0, 1, 4, 9], [4], [0, 1, 4, 10], [0, 1, 4, 10, 11], [0, 1, 4, 10, 11, 12], [0, 1, 4, 10, 11, 12, 83], [4, 10, 11, 12], [4]] : List (List Nat)).getD i []) false false false false Tryz.f65 = some F162 := by kernel_rfl
theorem tie262 : compF Tryz.prog ids (fun i => ([[0, 1], [0, 1, 12], [0, 1, 5], [0, 1, 5, 6], [0, 1, 33], [4], [4]] : List (List Nat)).getD i []) false false false false Tryz.f75 = some F262 := by kernel_rfl
theorem tie263 : compF Tryz.prog ids (fun i => ([[1], [1, 5], [1, 5, 6], [2], [1, 5, 17], [2], [1, 5, 33], [2], [1, 5, 47], [2], [1, 49], [2], [1, 3], [1, 3, 81], [3], [2]] : List (List Nat)).getD i []) false false false false Tryz.f76 = some F263 := by kernel_rfl
theorem tie192 : compF Tryz.prog ids (fun i => ([[0], [2]] : List (List Nat)).getD i []) false false false false Tryz.f79 = some F192 := by kernel_rfl
theorem tie193 : compF Tryz.prog ids (fun i => ([[0], [2]] : List (List Nat)).getD i []) false false false false Tryz.f80 = some F193 := by kernel_rfl
theorem tie194 : compF Tryz.prog ids (fun i => ([[0], [2]] : List (List Nat)).getD i []) false false false false Tryz.f81 = some F194 := by kernel_rfl
theorem tie195 : compF Tryz.prog ids (fun i => ([[0], [0, 3], [0, 3, 4], [0, 3, 4, 8], [0, 3, 4], [0, 3, 4], [0, 3, 4, 20], [2], [2]] : List (List Nat)).getD i []) false false false false Tryz.f82 = some F195 := by kernel_rfl
theorem tie196 : compF Tryz.prog ids (fun i => ([[0, 1], [0, 1, 5], [0, 1, 5, 9], [0, 1, 5], [0, 1, 5, 17], [4], [4]] : List (List Nat)).getD i []) false false false false Tryz.f83 = some F196 := by kernel_rfl
theorem tie264 : compF Tryz.prog ids (fun i => ([[0], [2]] : List (List Nat)).getD i []) false false false false Tryz.f84 = some F264 := by kernel_rfl
theorem tie265 : compF Tryz.prog ids (fun i => ([[0, 1, 4], [0, 1, 4, 5], [0, 1, 4, 5, 34], [0, 1, 4, 5], [0, 4, 6], [4, 6, 7, 8], [4, 6, 7, 56], [4, 6], [4, 6, 62], [4, 6], [4]] : List (List Nat)).getD i []) false false false false Tryz.f85 = some F265 := by kernel_rfl
theorem tie266 : compF Tryz.prog ids (fun i => ([[0], [2]] : List (List Nat)).getD i []) false false false false Tryz.f86 = some F266 := by kernel_rfl
theorem tie267 : compF Tryz.prog ids (fun i => ([[0, 1, 4], [0, 1, 4, 5, 6], [0, 1, 4, 5, 6, 24], [0, 1, 4, 5, 6], [0, 1, 4, 5, 6], [4, 6, 7], [4, 7, 50], [4, 7], [4]] : List (List Nat)).getD i []) false false false false Tryz.f87 = some F267 := by kernel_rfl
theorem tie268 : compF Tryz.prog ids (fun i => ([[0, 1], [4]] : List (List Nat)).getD i []) false false false false Tryz.f88 = some F268 := by kernel_rfl
theorem tie269 : compF Tryz.prog ids (fun i => ([[0, 1], [1, 5], [4]] : List (List Nat)).getD i []) false false false false Tryz.f89 = some F269 := by kernel_rfl
theorem tie270 : compF Tryz.prog ids (fun i => ([[0, 1, 13], [0, 1], []] : List (List Nat)).getD i []) false false false false Tryz.f90 = some F270 := by kernel_rfl
theorem tie271 : compF Tryz.prog ids (fun i => ([[0, 1, 4], [0, 1, 4, 5], [0, 1, 4, 5, 11], [0, 1, 4, 5], [0, 1, 4, 5], [4], [0, 1, 4, 5, 28], [0, 1, 4, 5, 6], [0, 1, 4, 5, 6], [4], [0, 1, 4, 5, 47], [4], [0, 1, 4, 5, 54], [0, 1, 4], [0, 1, 4, 7], [4], [0, 1, 4, 5, 70], [0, 1, 4], [0, 1, 4, 8], [0, 1, 4, 8], [4], [0, 4, 5, 89], [0, 4], [4], [4], [4]] : List (List Nat)).getD i []) false false false false Tryz.f91 = some F271 := by kernel_rfl
theorem tie272 : compF Tryz.prog ids (fun i => ([[0, 6], [], [19]] : List (List Nat)).getD i []) false false false false Tryz.f92 = some F272 := by kernel_rfl
theorem tie273 : compF Tryz.prog ids (fun i => ([[0, 2, 4], [0, 2, 4, 6], [0, 4, 6, 12], [0, 4, 6], [0, 4, 6], [0, 4, 6, 19], [0, 4, 6, 19, 20], [], [0, 4, 6, 19, 28], [0, 32], [], [], [0, 4, 6, 19, 39], [0, 4, 6, 19, 39], [], [0, 4, 6, 19, 47], [0, 4], [0], [], [0, 4, 6, 19, 61], [0, 4, 6], [], [0, 4, 6, 73], [0, 4, 6, 7], [0, 4, 6, 7, 77], [0, 4, 6, 7], [0, 4, 6], [0, 4, 6], []] : List (List Nat)).getD i []) false false true false Tryz.f93 = some F273 := by kernel_rfl
theorem tie274 : compF Tryz.prog ids (fun i => ([[1, 2, 4], [1, 2, 4, 9], [4], [4]] : List (List Nat)).getD i []) false false false false Tryz.f94 = some F274 := by kernel_rfl
theorem tie176 : compF Tryz.prog ids (fun i => ([[0, 1, 5, 6], [6]] : List (List Nat)).getD i []) false false false false Tryz.f95 = some F176 := by kernel_rfl
theorem tie177 : compF Tryz.prog ids (fun i => ([[0, 1, 4], [0, 1, 4, 5], [0, 1, 4, 5, 12], [0, 1, 4, 5], [0, 1, 4, 15], [0, 1, 4, 15, 16], [0, 1, 4, 15, 16], [4], [0, 1, 4, 15, 25], [0, 1, 4, 15, 25], [4], [0, 1, 4, 15, 34], [0, 1, 4, 15, 34], [4], [0, 1, 4, 15, 43], [0, 1, 4, 15, 43], [0, 1, 4, 6], [4], [0, 1, 4, 57], [4], [0, 1, 4, 7], [0, 1, 4, 7, 8], [4]] : List (List Nat)).getD i []) false false false false Tryz.f96 = some F177 := by kernel_rfl
theorem tie178 : compF Tryz.prog ids (fun i => ([[0, 1, 6, 7, 8], [8]] : List (List Nat)).getD i []) false false false false Tryz.f97 = some F178 := by kernel_rfl
theorem tie179 : compF Tryz.prog ids (fun i => ([[0, 1, 4], [0, 1, 4, 5], [0, 1, 4, 5, 13], [0, 1, 4, 5], [0, 1, 4, 16], [0, 1, 4, 16, 17], [4], [0, 1, 4, 16, 22], [0, 1, 4, 16, 22], [0, 1, 4, 16, 22], [0, 1, 4, 16, 22], [0, 1, 4, 6], [0, 1, 4, 6, 7], [4], [0, 1, 4, 43], [4], [0, 1, 4, 8], [0, 1, 4, 8, 9], [4]] : List (List Nat)).getD i []) false false false false Tryz.f98 = some F179 := by kernel_rfl
theorem tie234 : compF Tryz.prog ids (fun i => ([[1], [2]] : List (List Nat)).getD i []) false false false false Tryz.f114 = some F234 := by kernel_rfl
theorem tie198 : compF Tryz.prog ids (fun i => ([[0], [2]] : List (List Nat)).getD i []) false false false false Tryz.f116 = some F198 := by kernel_rfl
theorem tie275 : compF Tryz.prog ids (fun i => ([[0, 1], [4]] : List (List Nat)).getD i []) false false false false Tryz.f118 = some F275 := by kernel_rfl
theorem tie276 : compF Tryz.prog ids (fun i => ([[0, 1], [4]] : List (List Nat)).getD i []) false false false false Tryz.f119 = some F276 := by kernel_rfl
theorem tie277 : compF Tryz.prog ids (fun i => ([[0, 2], [0, 2, 3], [2, 3], [2]] : List (List Nat)).getD i []) false false false false Tryz.f120 = some F277 := by kernel_rfl
theorem tie278 : compF Tryz.prog ids (fun i => ([[0, 3, 4], [3, 4], [4]] : List (List Nat)).getD i []) false false false false Tryz.f121 = some F278 := by kernel_rfl
theorem tie279 : compF Tryz.prog ids (fun i => ([[2, 3, 4], [4]] : List (List Nat)).getD i []) false false false false Tryz.f122 = some F279 := by kernel_rfl
theorem tie280 : compF Tryz.prog ids (fun i => ([[0, 1, 4], [0, 1, 4], [0, 1, 4], [0, 4, 5], [4, 5], [4]] : List (List Nat)).getD i []) false false false false Tryz.f123 = some F280 := by kernel_rfl
theorem tie281 : compF Tryz.prog ids (fun i => ([[0, 1, 4], [0, 1, 4], [0, 1, 4, 5], [0, 1, 4, 5, 6, 7], [0, 1, 4, 5, 6, 7, 20], [0, 1, 4, 5, 6, 7], [4, 5, 6, 7], [4]] : List (List Nat)).getD i []) false false false false Tryz.f124 = some F281 := by kernel_rfl
theorem tie282 : compF Tryz.prog ids (fun i => ([[1], [1, 3], [2], [1, 12], [2], [1, 16], [2], [21], [21, 22], [2], [21, 24], [2], [21, 26], [21, 26], [2], [21, 29], [29], [2], [2]] : List (List Nat)).getD i []) false false false false Tryz.f126 = some F282 := by kernel_rfl
theorem tie283 : compF Tryz.prog ids (fun i => ([[0], [2]] : List (List Nat)).getD i []) false false false false Tryz.f127 = some F283 := by kernel_rfl
theorem tie246 : compF Tryz.prog ids (fun i => ([[1, 2, 3], [1, 2, 3, 7], [1, 2, 3, 7, 8], [1, 2, 3, 7, 8, 16], [1, 2, 3, 7, 8], [1, 2, 3, 7, 8, 22], [1, 2, 3, 7, 8], [1, 2, 3, 7, 8, 25], [1, 2, 3, 7, 8], [1, 2, 3, 7, 8, 28], [1, 2, 3, 7, 8], [1, 2, 3, 7, 8, 41], [1, 2, 3, 7, 8], [1, 2, 3, 7, 8, 55], [1, 2, 3, 7, 9], [1, 2, 3, 7, 9, 58], [1, 2, 3, 7, 9], [1, 2, 7, 8], [8, 87], [6], [6]] : List (List Nat)).getD i []) false false false false Tryz.f130 = some F246 := by kernel_rfl
theorem tie284 : compF Tryz.prog ids (fun i => ([[0, 1], [0, 1, 7, 8], [0, 1, 7, 8, 9], [0, 1, 5, 7, 8], [0, 1, 5, 7, 8, 16], [4], [0, 1, 7, 8], [4]] : List (List Nat)).getD i []) false false false false Tryz.f134 = some F284 := by kernel_rfl
theorem tie285 : compF Tryz.prog ids (fun i => ([[0, 1, 2, 6], [0, 1, 2, 6, 7], [0, 1, 2, 6, 7, 13], [0, 1, 2, 6, 7, 8], [0, 1, 2, 6, 7], [6]] : List (List Nat)).getD i []) false false false false Tryz.f135 = some F285 := by kernel_rfl
theorem tie286 : compF Tryz.prog ids (fun i => ([[0, 1, 2], [2]] : List (List Nat)).getD i []) false false false false Tryz.f136 = some F286 := by kernel_rfl
theorem tie287 : compF Tryz.prog ids (fun i => ([[2, 3, 4], [4]] : List (List Nat)).getD i []) false false false false Tryz.f137 = some F287 := by kernel_rfl
theorem tie288 : compF Tryz.prog ids (fun i => ([[0], [2]] : List (List Nat)).getD i []) false false false false Tryz.f138 = some F288 := by kernel_rfl
theorem tie261 : compF Tryz.prog ids (fun i => ([[1], [1, 5], [8], [2], [2], [1, 11], [2], [1, 14], [2], [1, 17], [2], [1, 25], [2], [33], [2], [2]] : List (List Nat)).getD i []) false false false false Tryz.f140 = some F261 := by kernel_rfl
theorem tie20 : compF Tryz.prog ids (fun i => ([[0], [0, 8], [2], [0, 3], [0, 3, 4], [0, 3, 4, 5], [0, 3, 4, 5, 11], [0, 3, 4, 5], [0, 3, 4, 5, 6], [0, 3, 4, 5, 6, 17], [0, 3, 4, 5, 6], [0, 3, 4, 5], [4, 28], [2], [2]] : List (List Nat)).getD i []) false false false false Tryz.f141 = some F20 := by kernel_rfl
theorem tie289 : compF Tryz.prog ids (fun i => ([[0, 1, 2], [2]] : List (List Nat)).getD i []) false false false false Tryz.f142 = some F289 := by kernel_rfl
theorem tie290 : compF Tryz.prog ids (fun i => ([[0, 1, 4], [0, 1, 4, 7], [0, 1, 4], [4], [4]] : List (List Nat)).getD i []) false false false false Tryz.f143 = some F290 := by kernel_rfl
theorem tie291 : compF Tryz.prog ids (fun i => ([[0, 1], [0, 1, 11], [0, 17], [4], [0, 5], [0, 5, 6], [0, 5, 6, 23], [0, 5, 6], [0, 5, 6, 7], [0, 5, 7], [5, 7, 34], [5, 7], [4], [4], [9], [4]] : List (List Nat)).getD i []) false false false false Tryz.f144 = some F291 := by kernel_rfl
theorem tie292 : compF Tryz.prog ids (fun i => ([[0, 1, 4], [0, 1, 4, 5], [0, 1, 4, 5, 13], [4], [0, 1, 4, 5, 6], [4]] : List (List Nat)).getD i []) false false false false Tryz.f145 = some F292 := by kernel_rfl
theorem tie293 : compF Tryz.prog ids (fun i => ([[0], [0, 4], [2], [2]] : List (List Nat)).getD i []) false false false false Tryz.f146 = some F293 := by kernel_rfl
theorem tie294 : compF Tryz.prog ids (fun i => ([[0], [0, 3], [2]] : List (List Nat)).getD i []) false false false false Tryz.f147 = some F294 := by kernel_rfl
theorem tie295 : compF Tryz.prog ids (fun i => ([[0, 1, 4], [0, 1, 4, 20], [0, 1, 4, 5], [0, 1, 4, 5], [0, 1, 4, 6, 7], [0, 1, 4, 6, 8, 9], [0, 1, 4, 8, 9, 10, 11], [0, 1, 4, 8, 10, 11], [0, 1, 4, 10, 11], [0, 1, 4, 10], [0, 1, 4], [0, 1, 4], [0, 4, 12], [0, 4, 12, 99], [0, 4, 12, 13], [0, 4, 12, 13], [0, 4, 12, 14, 15], [0, 4, 12, 14], [0, 4, 12], [0, 4, 12], [0, 4, 12, 139], [0, 4, 12, 16], [0, 4, 12, 16], [0, 4, 12], [0, 4, 12], [0, 12, 161], []] : List (List Nat)).getD i []) false false false false Tryz.f148 = some F295 := by kernel_rfl
theorem tie297 : compF Tryz.prog ids (fun i => ([[2, 3, 4], [4]] : List (List Nat)).getD i []) false false false false Tryz.f150 = some F297 := by kernel_rfl
theorem tie298 : compF Tryz.prog ids (fun i => ([[0], [2]] : List (List Nat)).getD i []) false false false false Tryz.f151 = some F298 := by kernel_rfl
theorem tie299 : compF Tryz.prog ids (fun i => ([[0, 2], [0, 2, 4], [0], [0, 2], [0, 2, 8], [0, 2], [0, 2], [0, 2, 14], [0, 2], [0, 2], [2]] : List (List Nat)).getD i []) false false false false Tryz.f152 = some F299 := by kernel_rfl
theorem tie300 : compF Tryz.prog ids (fun i => ([[0], [3], [2], [2]] : List (List Nat)).getD i []) false false false false Tryz.f153 = some F300 := by kernel_rfl
theorem tie303 : compF Tryz.prog ids (fun i => ([[0, 1, 2], [2]] : List (List Nat)).getD i []) false false false false Tryz.f156 = some F303 := by kernel_rfl
theorem tie304 : compF Tryz.prog ids (fun i => ([[2, 3, 4], [4]] : List (List Nat)).getD i []) false false false false Tryz.f157 = some F304 := by kernel_rfl
theorem tie307 : compF Tryz.prog ids (fun i => ([[0, 1, 2], [2]] : List (List Nat)).getD i []) false false false false Tryz.f160 = some F307 := by kernel_rfl
theorem tie308 : compF Tryz.prog ids (fun i => ([[0, 1, 4], [0, 1, 4, 7], [0, 1, 4], [4], [4]] : List (List Nat)).getD i []) false false false false Tryz.f161 = some F308 := by kernel_rfl
theorem tie309 : compF Tryz.prog ids (fun i => ([[0, 1, 4], [0, 1, 4, 5], [0, 1, 4, 5, 9], [4, 5], [4], [0, 1, 4, 5, 18], [4, 5], [4], [0, 1, 4, 5, 27], [4], [0, 1, 4, 5, 38], [4], [4], [0, 1, 4, 5, 45], [4], [4], [0, 1, 4, 5, 52], [4, 5], [4], [0, 1, 4], [0, 4, 6], [4, 6], [4]] : List (List Nat)).getD i []) false false false false Tryz.f162 = some F309 := by kernel_rfl
def fid : Fid := ⟨fidF, fun N c pc => 2 * N ≤ dkey ∧ ∃ K ow d, comp Tryz.prog (ids.with ow d) N K c = some pc, fidT, fun g t nm => ∃ f, methT Tryz.prog t nm = some f ∧ ids.fn f = some g, ids.gl⟩
theorem hid : Ties Tryz.prog ids fid := by
  refine ⟨fun f g h => ?_, fun t u h => ?_, fun _ _ _ => Iff.rfl, fun _ _ h => h⟩
  · simp only [ids, idsF] at h
    split at h <;> first | (cases h; rfl) | cases h
  · simp only [ids, idsT] at h
    first | cases h | (split at h <;> first | (cases h; rfl) | cases h)
theorem hcr : Codes Tryz.prog ids fid := fun _ _ _ => Iff.rfl
theorem mixed : Tryz.prog.follows .mixedOrders = true := by kernel_rfl
theorem tied : Tied Tryz.prog ids fid prog13z := fun f pf h => by
  unfold prog13z at h
  split at h
  · cases h; exact ⟨Tryz.f20, _, _, _, _, Tryz.func20, tie17⟩
  · cases h; exact ⟨Tryz.f141, _, _, _, _, Tryz.func141, tie20⟩
  · cases h; exact ⟨Tryz.f32, _, _, _, _, Tryz.func32, tie23⟩
  · cases h; exact ⟨Tryz.f15, _, _, _, _, Tryz.func15, tie123⟩
  · cases h; exact ⟨Tryz.f33, _, _, _, _, Tryz.func33, tie136⟩
  · cases h; exact ⟨Tryz.f34, _, _, _, _, Tryz.func34, tie137⟩
  · cases h; exact ⟨Tryz.f23, _, _, _, _, Tryz.func23, tie149⟩
  · cases h; exact ⟨Tryz.f43, _, _, _, _, Tryz.func43, tie152⟩
  · cases h; exact ⟨Tryz.f65, _, _, _, _, Tryz.func65, tie162⟩
  · cases h; exact ⟨Tryz.f51, _, _, _, _, Tryz.func51, tie170⟩
  · cases h; exact ⟨Tryz.f52, _, _, _, _, Tryz.func52, tie171⟩
  · cases h; exact ⟨Tryz.f95, _, _, _, _, Tryz.func95, tie176⟩
  · cases h; exact ⟨Tryz.f96, _, _, _, _, Tryz.func96, tie177⟩
  · cases h; exact ⟨Tryz.f97, _, _, _, _, Tryz.func97, tie178⟩
  · cases h; exact ⟨Tryz.f98, _, _, _, _, Tryz.func98, tie179⟩
  · cases h; exact ⟨Tryz.f79, _, _, _, _, Tryz.func79, tie192⟩
  · cases h; exact ⟨Tryz.f80, _, _, _, _, Tryz.func80, tie193⟩
  · cases h; exact ⟨Tryz.f81, _, _, _, _, Tryz.func81, tie194⟩
  · cases h; exact ⟨Tryz.f82, _, _, _, _, Tryz.func82, tie195⟩
  · cases h; exact ⟨Tryz.f83, _, _, _, _, Tryz.func83, tie196⟩
  · cases h; exact ⟨Tryz.f116, _, _, _, _, Tryz.func116, tie198⟩
  · cases h; exact ⟨Tryz.f6, _, _, _, _, Tryz.func6, tie227⟩
  · cases h; exact ⟨Tryz.f12, _, _, _, _, Tryz.func12, tie228⟩
  · cases h; exact ⟨Tryz.f10, _, _, _, _, Tryz.func10, tie229⟩
  · cases h; exact ⟨Tryz.f14, _, _, _, _, Tryz.func14, tie231⟩
  · cases h; exact ⟨Tryz.f13, _, _, _, _, Tryz.func13, tie232⟩
  · cases h; exact ⟨Tryz.f114, _, _, _, _, Tryz.func114, tie234⟩
  · cases h; exact ⟨Tryz.f28, _, _, _, _, Tryz.func28, tie235⟩
  · cases h; exact ⟨Tryz.f19, _, _, _, _, Tryz.func19, tie236⟩
  · cases h; exact ⟨Tryz.f24, _, _, _, _, Tryz.func24, tie239⟩
  · cases h; exact ⟨Tryz.f25, _, _, _, _, Tryz.func25, tie240⟩
  · cases h; exact ⟨Tryz.f26, _, _, _, _, Tryz.func26, tie241⟩
  · cases h; exact ⟨Tryz.f27, _, _, _, _, Tryz.func27, tie242⟩
  · cases h; exact ⟨Tryz.f29, _, _, _, _, Tryz.func29, tie243⟩
  · cases h; exact ⟨Tryz.f30, _, _, _, _, Tryz.func30, tie244⟩
  · cases h; exact ⟨Tryz.f31, _, _, _, _, Tryz.func31, tie245⟩
  · cases h; exact ⟨Tryz.f130, _, _, _, _, Tryz.func130, tie246⟩
  · cases h; exact ⟨Tryz.f42, _, _, _, _, Tryz.func42, tie247⟩
  · cases h; exact ⟨Tryz.f44, _, _, _, _, Tryz.func44, tie248⟩
  · cases h; exact ⟨Tryz.f53, _, _, _, _, Tryz.func53, tie249⟩
  · cases h; exact ⟨Tryz.f54, _, _, _, _, Tryz.func54, tie250⟩
  · cases h; exact ⟨Tryz.f55, _, _, _, _, Tryz.func55, tie251⟩
  · cases h; exact ⟨Tryz.f56, _, _, _, _, Tryz.func56, tie252⟩
  · cases h; exact ⟨Tryz.f57, _, _, _, _, Tryz.func57, tie253⟩
  · cases h; exact ⟨Tryz.f58, _, _, _, _, Tryz.func58, tie254⟩
  · cases h; exact ⟨Tryz.f59, _, _, _, _, Tryz.func59, tie255⟩
  · cases h; exact ⟨Tryz.f60, _, _, _, _, Tryz.func60, tie256⟩
  · cases h; exact ⟨Tryz.f61, _, _, _, _, Tryz.func61, tie257⟩
  · cases h; exact ⟨Tryz.f62, _, _, _, _, Tryz.func62, tie258⟩
  · cases h; exact ⟨Tryz.f63, _, _, _, _, Tryz.func63, tie259⟩
  · cases h; exact ⟨Tryz.f64, _, _, _, _, Tryz.func64, tie260⟩
  · cases h; exact ⟨Tryz.f140, _, _, _, _, Tryz.func140, tie261⟩
  · cases h; exact ⟨Tryz.f75, _, _, _, _, Tryz.func75, tie262⟩
  · cases h; exact ⟨Tryz.f76, _, _, _, _, Tryz.func76, tie263⟩
  · cases h; exact ⟨Tryz.f84, _, _, _, _, Tryz.func84, tie264⟩
  · cases h; exact ⟨Tryz.f85, _, _, _, _, Tryz.func85, tie265⟩
  · cases h; exact ⟨Tryz.f86, _, _, _, _, Tryz.func86, tie266⟩
  · cases h; exact ⟨Tryz.f87, _, _, _, _, Tryz.func87, tie267⟩
  · cases h; exact ⟨Tryz.f88, _, _, _, _, Tryz.func88, tie268⟩
  · cases h; exact ⟨Tryz.f89, _, _, _, _, Tryz.func89, tie269⟩
  · cases h; exact ⟨Tryz.f90, _, _, _, _, Tryz.func90, tie270⟩
  · cases h; exact ⟨Tryz.f91, _, _, _, _, Tryz.func91, tie271⟩
  · cases h; exact ⟨Tryz.f92, _, _, _, _, Tryz.func92, tie272⟩
  · cases h; exact ⟨Tryz.f93, _, _, _, _, Tryz.func93, tie273⟩
  · cases h; exact ⟨Tryz.f94, _, _, _, _, Tryz.func94, tie274⟩
  · cases h; exact ⟨Tryz.f118, _, _, _, _, Tryz.func118, tie275⟩
  · cases h; exact ⟨Tryz.f119, _, _, _, _, Tryz.func119, tie276⟩
  · cases h; exact ⟨Tryz.f120, _, _, _, _, Tryz.func120, tie277⟩
  · cases h; exact ⟨Tryz.f121, _, _, _, _, Tryz.func121, tie278⟩
  · cases h; exact ⟨Tryz.f122, _, _, _, _, Tryz.func122, tie279⟩
  · cases h; exact ⟨Tryz.f123, _, _, _, _, Tryz.func123, tie280⟩
  · cases h; exact ⟨Tryz.f124, _, _, _, _, Tryz.func124, tie281⟩
  · cases h; exact ⟨Tryz.f126, _, _, _, _, Tryz.func126, tie282⟩
  · cases h; exact ⟨Tryz.f127, _, _, _, _, Tryz.func127, tie283⟩
  · cases h; exact ⟨Tryz.f134, _, _, _, _, Tryz.func134, tie284⟩
  · cases h; exact ⟨Tryz.f135, _, _, _, _, Tryz.func135, tie285⟩
  · cases h; exact ⟨Tryz.f136, _, _, _, _, Tryz.func136, tie286⟩
  · cases h; exact ⟨Tryz.f137, _, _, _, _, Tryz.func137, tie287⟩
  · cases h; exact ⟨Tryz.f138, _, _, _, _, Tryz.func138, tie288⟩
  · cases h; exact ⟨Tryz.f142, _, _, _, _, Tryz.func142, tie289⟩
  · cases h; exact ⟨Tryz.f143, _, _, _, _, Tryz.func143, tie290⟩
  · cases h; exact ⟨Tryz.f144, _, _, _, _, Tryz.func144, tie291⟩
  · cases h; exact ⟨Tryz.f145, _, _, _, _, Tryz.func145, tie292⟩
  · cases h; exact ⟨Tryz.f146, _, _, _, _, Tryz.func146, tie293⟩
  · cases h; exact ⟨Tryz.f147, _, _, _, _, Tryz.func147, tie294⟩
  · cases h; exact ⟨Tryz.f148, _, _, _, _, Tryz.func148, tie295⟩
  · cases h; exact ⟨Tryz.f150, _, _, _, _, Tryz.func150, tie297⟩
  · cases h; exact ⟨Tryz.f151, _, _, _, _, Tryz.func151, tie298⟩
  · cases h; exact ⟨Tryz.f152, _, _, _, _, Tryz.func152, tie299⟩
  · cases h; exact ⟨Tryz.f153, _, _, _, _, Tryz.func153, tie300⟩
  · cases h; exact ⟨Tryz.f156, _, _, _, _, Tryz.func156, tie303⟩
  · cases h; exact ⟨Tryz.f157, _, _, _, _, Tryz.func157, tie304⟩
  · cases h; exact ⟨Tryz.f160, _, _, _, _, Tryz.func160, tie307⟩
  · cases h; exact ⟨Tryz.f161, _, _, _, _, Tryz.func161, tie308⟩
  · cases h; exact ⟨Tryz.f162, _, _, _, _, Tryz.func162, tie309⟩
  · cases h; exact ⟨Tryz.f4, _, _, _, _, Tryz.func4, tie311⟩
  · cases h; exact ⟨Tryz.f11, _, _, _, _, Tryz.func11, tie314⟩
  · cases h
theorem glb {w : World} (h : laidMet Tryz.prog [("math/bits.deBruijn32tab", Rows.laid_math_bits_deBruijn32tab), ("math/bits.deBruijn64tab", Rows.laid_math_bits_deBruijn64tab), ("internal/strconv.uint64pow10", Rows.laid_internal_strconv_uint64pow10)] w) : GlbAt fid w := fun g cs hg => by
  simp only [fid, ids, idsG] at hg
  split at hg
  · cases hg
    exact ⟨((List.range 20).map fun i => Value.int .u64 (10 ^ i : Nat)), glb_of_laids (P := Tryz.prog) (n := "internal/strconv.uint64pow10") (d := Rows.laid_internal_strconv_uint64pow10) (L := [("math/bits.deBruijn32tab", Rows.laid_math_bits_deBruijn32tab), ("math/bits.deBruijn64tab", Rows.laid_math_bits_deBruijn64tab), ("internal/strconv.uint64pow10", Rows.laid_internal_strconv_uint64pow10)]) (g := 2) (t := 170) (vs := ((List.range 20).map fun i => Value.int .u64 (10 ^ i : Nat))) (m := 3) (by simp) (by kernel_rfl) (by kernel_rfl) (by kernel_rfl) (by kernel_rfl) h⟩
  · cases hg
end Go.Proofs.YtjdbkncfebebnaaGreatDoor.T
end ST13z
