/- The given program, held against the abstract one: function by function, by the kernel. -/
import Derived.Test.YtjdbkncfebebnaaDoorRows
import Derived.Test.YtjdbkncfebebnaaDoorPmY
import Derived.Test.YtjdbkncfebebnaaDoorPmT4e
import Derived.KernelRfl
set_option linter.unusedSimpArgs false
set_option linter.unusedVariables false
section ST13
namespace Go.Proofs.YtjdbkncfebebnaaDoor.T
open Go.Pm Go.Pm.F
def idsF : FuncId → Option Nat := fun f => match f with
  | 10 => some 224
  | 11 => some 17
  | 21 => some 228
  | 24 => some 231
  | 35 => some 11
  | 36 => some 10
  | 37 => some 12
  | 38 => some 14
  | 39 => some 15
  | 53 => some 239
  | 54 => some 240
  | 55 => some 241
  | 56 => some 242
  | 57 => some 243
  | 58 => some 244
  | 59 => some 245
  | 64 => some 23
  | 68 => some 25
  | 69 => some 29
  | 70 => some 18
  | 71 => some 8
  | 72 => some 26
  | 73 => some 30
  | 74 => some 32
  | 86 => some 249
  | 87 => some 250
  | 88 => some 251
  | 89 => some 252
  | 90 => some 253
  | 91 => some 254
  | 92 => some 255
  | 93 => some 256
  | 94 => some 257
  | 95 => some 258
  | 96 => some 259
  | 97 => some 260
  | 102 => some 36
  | 103 => some 27
  | 104 => some 35
  | 105 => some 37
  | 106 => some 38
  | 107 => some 39
  | 129 => some 264
  | 130 => some 265
  | 131 => some 266
  | 132 => some 267
  | 133 => some 268
  | 134 => some 269
  | 135 => some 270
  | 136 => some 271
  | 137 => some 272
  | 138 => some 273
  | 139 => some 274
  | 140 => some 22
  | 141 => some 24
  | 142 => some 34
  | 147 => some 275
  | 148 => some 276
  | 149 => some 277
  | 150 => some 278
  | 151 => some 279
  | 152 => some 280
  | 153 => some 281
  | 155 => some 282
  | 156 => some 283
  | 159 => some 284
  | 160 => some 285
  | 161 => some 286
  | 162 => some 287
  | 163 => some 288
  | 164 => some 289
  | 165 => some 290
  | 166 => some 291
  | 167 => some 292
  | 168 => some 293
  | 169 => some 294
  | 170 => some 295
  | 171 => some 296
  | 172 => some 297
  | 173 => some 298
  | 174 => some 299
  | 175 => some 300
  | 178 => some 303
  | 179 => some 304
  | 182 => some 307
  | 183 => some 308
  | 184 => some 309
  | _ => none
def idsT : TypeId → Option Nat := fun t => match t with
  | 31 => some 1
  | 9 => some 2
  | 5 => some 3
  | 112 => some 4
  | _ => none
def idsG : Nat → Option (List D) := fun g => match g with
  | 2 => some G_internal_strconv_uint64pow10
  | _ => none
def ids : Ids := ⟨idsF, idsT, idsG, false, false⟩
def fidF : Nat → FuncId := fun k => match k with
  | 224 => 10
  | 17 => 11
  | 228 => 21
  | 231 => 24
  | 11 => 35
  | 10 => 36
  | 12 => 37
  | 14 => 38
  | 15 => 39
  | 239 => 53
  | 240 => 54
  | 241 => 55
  | 242 => 56
  | 243 => 57
  | 244 => 58
  | 245 => 59
  | 23 => 64
  | 25 => 68
  | 29 => 69
  | 18 => 70
  | 8 => 71
  | 26 => 72
  | 30 => 73
  | 32 => 74
  | 249 => 86
  | 250 => 87
  | 251 => 88
  | 252 => 89
  | 253 => 90
  | 254 => 91
  | 255 => 92
  | 256 => 93
  | 257 => 94
  | 258 => 95
  | 259 => 96
  | 260 => 97
  | 36 => 102
  | 27 => 103
  | 35 => 104
  | 37 => 105
  | 38 => 106
  | 39 => 107
  | 264 => 129
  | 265 => 130
  | 266 => 131
  | 267 => 132
  | 268 => 133
  | 269 => 134
  | 270 => 135
  | 271 => 136
  | 272 => 137
  | 273 => 138
  | 274 => 139
  | 22 => 140
  | 24 => 141
  | 34 => 142
  | 275 => 147
  | 276 => 148
  | 277 => 149
  | 278 => 150
  | 279 => 151
  | 280 => 152
  | 281 => 153
  | 282 => 155
  | 283 => 156
  | 284 => 159
  | 285 => 160
  | 286 => 161
  | 287 => 162
  | 288 => 163
  | 289 => 164
  | 290 => 165
  | 291 => 166
  | 292 => 167
  | 293 => 168
  | 294 => 169
  | 295 => 170
  | 296 => 171
  | 297 => 172
  | 298 => 173
  | 299 => 174
  | 300 => 175
  | 303 => 178
  | 304 => 179
  | 307 => 182
  | 308 => 183
  | 309 => 184
  | _ => 0
def fidT : Nat → TypeId := fun k => match k with
  | 1 => 31
  | 2 => 9
  | 3 => 5
  | 4 => 112
  | _ => 0

theorem tie224 : compF Tryd.prog ids (fun i => ([[0], [3], [3, 4], [3, 4, 14], [2], [3, 5, 7], [2]] : List (List Nat)).getD i []) false false false false Tryd.f10 = some F224 := by kernel_rfl
theorem tie17 : compF Tryd.prog ids (fun i => ([[0, 1], [0, 1, 6], [0, 1], [4]] : List (List Nat)).getD i []) false false false false Tryd.f11 = some F17 := by kernel_rfl
theorem tie228 : compF Tryd.prog ids (fun i => ([[0, 2, 3, 4], [0, 2, 3, 4, 9], [2, 3, 4], [2, 3, 4, 5], [2, 3, 4, 5], [2, 3, 4, 5, 19], [5, 6], [], [2, 3, 4]] : List (List Nat)).getD i []) false false true false Tryd.f21 = some F228 := by kernel_rfl
theorem tie231 : compF Tryd.prog ids (fun i => ([[1], [1, 3], [1, 3, 8, 9], [1, 3, 8, 9, 10], [1, 3, 4, 5, 8, 9], [1, 3, 4, 5, 8, 9, 18], [1, 3, 4, 8, 9], [1, 3, 8, 9], [1, 3, 8, 9], [2]] : List (List Nat)).getD i []) false true false false Tryd.f24 = some F231 := by kernel_rfl
theorem tie11 : compF Tryd.prog ids (fun i => ([[0, 2], [2, 3], [2, 3, 4], [2, 3, 4, 5], [2, 3, 4, 5, 11], [2, 3, 4, 5], [2, 3, 4, 5, 16], [2, 3, 4, 5], [2]] : List (List Nat)).getD i []) false false false false Tryd.f35 = some F11 := by kernel_rfl
theorem tie10 : compF Tryd.prog ids (fun i => ([[], [1], [1, 2], [1, 2, 3], [1, 2, 4], [2, 4, 5], [4, 5, 6], [4, 5, 6, 7], [0]] : List (List Nat)).getD i []) false false false false Tryd.f36 = some F10 := by kernel_rfl
theorem tie12 : compF Tryd.prog ids (fun i => ([[1], [1, 3], [1, 3, 8, 9], [1, 3, 8, 9, 10], [1, 3, 5, 8, 9], [1, 3, 8, 9, 20], [2], [1, 3, 8, 9], [25], [2], [2]] : List (List Nat)).getD i []) false false false false Tryd.f37 = some F12 := by kernel_rfl
theorem tie14 : compF Tryd.prog ids (fun i => ([[0, 1], [0, 1, 10], [4], [0, 1, 5], [0, 1, 5, 14], [0, 1, 5], [0, 1, 5, 25], [4], [4]] : List (List Nat)).getD i []) false false false false Tryd.f38 = some F14 := by kernel_rfl
theorem tie15 : compF Tryd.prog ids (fun i => ([[1], [1, 3], [1, 3, 4], [3, 4, 12, 13], [3, 4, 12, 13, 14], [3, 4, 6, 12, 13], [3, 4, 12, 13, 17], [3, 4, 7], [3, 4, 7, 26], [3, 4, 7, 9], [3, 4, 7, 35], [3, 7], [], [3, 4, 12, 13], [2]] : List (List Nat)).getD i []) false false false false Tryd.f39 = some F15 := by kernel_rfl
theorem tie239 : compF Tryd.prog ids (fun i => ([[0, 2], [2]] : List (List Nat)).getD i []) false false false false Tryd.f53 = some F239 := by kernel_rfl
theorem tie240 : compF Tryd.prog ids (fun i => ([[0, 1, 2, 3, 5], []] : List (List Nat)).getD i []) false false false true Tryd.f54 = some F240 := by kernel_rfl
theorem tie241 : compF Tryd.prog ids (fun i => ([[1], [2]] : List (List Nat)).getD i []) false false false false Tryd.f55 = some F241 := by kernel_rfl
theorem tie242 : compF Tryd.prog ids (fun i => ([[0, 2], [0, 2, 3], [0, 2, 3, 8], [0, 2, 3], [0, 2, 3, 4], [0, 2, 3, 4, 18], [0, 2, 3, 4], [0, 2, 3, 4], [0, 2, 3], [2]] : List (List Nat)).getD i []) false false false false Tryd.f56 = some F242 := by kernel_rfl
theorem tie243 : compF Tryd.prog ids (fun i => ([[0, 6, 7, 8], [0, 6, 7, 8, 9], [0, 5, 6, 7, 8], [0, 5, 6, 7, 8, 13], [0, 5, 6, 7, 8, 23], [0, 5, 6, 7, 8], [0, 5, 6, 7, 8], [0, 6, 7, 8], [0, 6, 7, 8]] : List (List Nat)).getD i []) false false false false Tryd.f57 = some F243 := by kernel_rfl
theorem tie244 : compF Tryd.prog ids (fun i => ([[0, 3], [0, 3], [0, 10, 11, 12], [0, 10, 11, 12, 13], [0, 5, 10, 11, 12], [0, 10, 11, 12], [0, 10, 11, 12], []] : List (List Nat)).getD i []) false false false false Tryd.f58 = some F244 := by kernel_rfl
theorem tie245 : compF Tryd.prog ids (fun i => ([[0], [2]] : List (List Nat)).getD i []) false true false false Tryd.f59 = some F245 := by kernel_rfl
theorem tie23 : compF Tryd.prog ids (fun i => ([[0, 1], [0, 1, 5], [4]] : List (List Nat)).getD i []) false false false false Tryd.f64 = some F23 := by kernel_rfl
theorem tie25 : compF Tryd.prog ids (fun i => ([[0, 1], [0, 1], [0, 1, 22], [4], [4]] : List (List Nat)).getD i []) false false false false Tryd.f68 = some F25 := by kernel_rfl
theorem tie29 : compF Tryd.prog ids (fun i => ([[0, 1, 4], [0, 1, 4, 5], [0, 1, 4, 5, 6], [0, 1, 4, 5, 6, 11], [0, 1, 4, 5, 6], [0, 1, 4, 5, 6], [4]] : List (List Nat)).getD i []) false false false false Tryd.f69 = some F29 := by kernel_rfl
theorem tie18 : compF Tryd.prog ids (fun i => ([[1, 2], [1, 2, 3], [2, 3], [2]] : List (List Nat)).getD i []) false false false false Tryd.f70 = some F18 := by kernel_rfl
theorem tie8 : compF Tryd.prog ids (fun i => ([[1], [2]] : List (List Nat)).getD i []) false false false false Tryd.f71 = some F8 := by kernel_rfl
theorem tie26 : compF Tryd.prog ids (fun i => ([[0], [0, 1, 2, 3], [0]] : List (List Nat)).getD i []) false false false false Tryd.f72 = some F26 := by kernel_rfl
theorem tie30 : compF Tryd.prog ids (fun i => ([[2, 3], [2, 3, 5, 6], [2, 3, 5, 6, 13], [2, 3, 5, 6, 13, 14], [2, 3, 5, 6, 13, 16], [2, 3, 5, 6, 13, 18], [2, 3, 5, 13, 20], [2, 3, 5, 13, 20], [2, 3, 13, 23], [2, 3, 25], [4], [2, 5, 6, 38], [4], [4], [2, 3, 52], [4], [4], [4], [4], [4]] : List (List Nat)).getD i []) false false false false Tryd.f73 = some F30 := by kernel_rfl
theorem tie32 : compF Tryd.prog ids (fun i => ([[1], [2]] : List (List Nat)).getD i []) false false false false Tryd.f74 = some F32 := by kernel_rfl
theorem tie249 : compF Tryd.prog ids (fun i => ([[0, 1, 3], [0, 1, 4], [0, 1, 4, 23], [0, 1, 3]] : List (List Nat)).getD i []) false false false false Tryd.f86 = some F249 := by kernel_rfl
theorem tie250 : compF Tryd.prog ids (fun i => ([[0, 1, 4], [0, 1, 4, 13], [4], [0, 1, 4, 5], [0, 1, 4, 5, 22], [4], [0, 1, 4, 28], [4], [0, 1, 4, 41], [0, 1, 4, 6], [0, 1, 4, 6, 50], [0, 1, 4, 6, 50, 51], [0, 1, 4, 6, 50, 51], [0, 1, 4, 6, 50, 51], [0, 1, 4, 6, 50, 51], [0, 1, 4, 6, 50, 51], [0, 1, 4, 6, 51], [4], [0, 1, 4, 68], [4], [4]] : List (List Nat)).getD i []) false false false false Tryd.f87 = some F250 := by kernel_rfl
theorem tie251 : compF Tryd.prog ids (fun i => ([[0, 1], [0, 1, 5], [0, 1, 5, 13], [0, 1, 5], [0, 1, 5, 6], [4], [0, 1, 5, 6, 23], [0, 1, 5], [0, 1, 5, 6, 26], [0, 1, 36], [0, 1, 5], [4]] : List (List Nat)).getD i []) false false false false Tryd.f88 = some F251 := by kernel_rfl
theorem tie252 : compF Tryd.prog ids (fun i => ([[0, 2], [0, 2, 3], [0, 2, 3, 16], [2, 3], [2]] : List (List Nat)).getD i []) false false false false Tryd.f89 = some F252 := by kernel_rfl
theorem tie253 : compF Tryd.prog ids (fun i => ([[0, 8], [0], []] : List (List Nat)).getD i []) false false false false Tryd.f90 = some F253 := by kernel_rfl
theorem tie254 : compF Tryd.prog ids (fun i => ([[0], [0, 3], [0, 3, 7], [0, 3, 7, 8], [2], [0, 3, 7, 10], [2], [0, 3, 12], [2], [], [2]] : List (List Nat)).getD i []) false false false false Tryd.f91 = some F254 := by kernel_rfl
theorem tie255 : compF Tryd.prog ids (fun i => ([[0, 2, 4], [2], []] : List (List Nat)).getD i []) false false false false Tryd.f92 = some F255 := by kernel_rfl
theorem tie256 : compF Tryd.prog ids (fun i => ([[0, 1, 4], [0, 1, 4], [0, 1, 4, 5], [0, 1, 4, 5, 13], [0, 1, 4, 5], [4, 5], [4]] : List (List Nat)).getD i []) false false false false Tryd.f93 = some F256 := by kernel_rfl
theorem tie257 : compF Tryd.prog ids (fun i => ([[0], [2]] : List (List Nat)).getD i []) false false false false Tryd.f94 = some F257 := by kernel_rfl
theorem tie258 : compF Tryd.prog ids (fun i => ([[0, 1], [0, 1], [], [4]] : List (List Nat)).getD i []) false true false false Tryd.f95 = some F258 := by kernel_rfl
theorem tie259 : compF Tryd.prog ids (fun i => ([[0, 1], [0, 1], [1], [4, 5]] : List (List Nat)).getD i []) false true false false Tryd.f96 = some F259 := by kernel_rfl
theorem tie260 : compF Tryd.prog ids (fun i => ([[0, 3], [0, 3, 6], [0, 3, 6, 7], [0, 3], [0], [], [0, 3, 6, 21], [0, 3], [0, 3], [0, 3], [0], [], [0, 3, 6, 42], [0, 3], [0, 3], [0, 3], [0, 4], [0, 4, 60], [0, 4], [], [0, 3, 6, 67], [0, 3], [0, 3], [], [0, 3, 6, 80], [0, 3], [0, 3], [0, 3], [0], [], [0, 99], []] : List (List Nat)).getD i []) false false false false Tryd.f97 = some F260 := by kernel_rfl
theorem tie36 : compF Tryd.prog ids (fun i => ([[0, 1, 4], [0, 1, 4, 5], [0, 1, 4, 5, 14], [0, 1, 4, 5], [0, 1, 4, 5, 16], [4], [0, 1, 4, 5, 25], [0, 4, 6], [4], [0, 1, 4, 5, 37], [4], [0, 1, 4, 5, 45], [4], [0, 1, 4, 48], [4], [4]] : List (List Nat)).getD i []) false false false false Tryd.f102 = some F36 := by kernel_rfl
theorem tie27 : compF Tryd.prog ids (fun i => ([[2, 3], [2, 3, 5, 6], [2, 3, 5, 6, 16], [2, 3, 5, 6, 16, 17], [2, 3, 5, 6, 16, 19], [2, 3, 5, 6, 16, 19], [2, 3, 5, 6, 16, 19], [2, 3, 5, 6, 16, 23], [2, 3, 5, 6, 16, 25], [2, 3, 5, 6, 27], [32], [4], [4], [4], [2, 3, 5, 7], [2, 5, 7, 35], [2, 5, 7], [7, 40], [4], [2, 5, 6, 8, 9], [8, 66], [4], [4]] : List (List Nat)).getD i []) false false false false Tryd.f103 = some F27 := by kernel_rfl
theorem tie35 : compF Tryd.prog ids (fun i => ([[1, 2, 3], [1, 2, 3, 7], [1, 2, 3], [1, 2, 3, 15], [2, 3], [2, 3]] : List (List Nat)).getD i []) false false false false Tryd.f104 = some F35 := by kernel_rfl
theorem tie37 : compF Tryd.prog ids (fun i => ([[1, 2], [2, 7, 8, 9], [2, 7, 8, 9, 10], [2, 6, 7, 8, 9], [2, 7, 8, 9, 16], [4], [2, 7, 8, 9], [4]] : List (List Nat)).getD i []) false false false false Tryd.f105 = some F37 := by kernel_rfl
theorem tie38 : compF Tryd.prog ids (fun i => ([[]] : List (List Nat)).getD i []) false false false false Tryd.f106 = some F38 := by kernel_rfl
theorem tie39 : compF Tryd.prog ids (fun i => ([[1, 2], [1, 2, 10], [4], [1, 12, 13, 14], [1, 12, 13, 14, 15], [1, 6, 12, 13, 14], [1, 12, 13, 14, 21], [4], [1, 12, 13, 14], [4]] : List (List Nat)).getD i []) false false false false Tryd.f107 = some F39 := by kernel_rfl
theorem tie264 : compF Tryd.prog ids (fun i => ([[0], [2]] : List (List Nat)).getD i []) false false false false Tryd.f129 = some F264 := by kernel_rfl
theorem tie265 : compF Tryd.prog ids (fun i => ([[0, 1, 4], [0, 1, 4, 5], [0, 1, 4, 5, 34], [0, 1, 4, 5], [0, 4, 6], [4, 6, 7, 8], [4, 6, 7, 56], [4, 6], [4, 6, 62], [4, 6], [4]] : List (List Nat)).getD i []) false false false false Tryd.f130 = some F265 := by kernel_rfl
theorem tie266 : compF Tryd.prog ids (fun i => ([[0], [2]] : List (List Nat)).getD i []) false false false false Tryd.f131 = some F266 := by kernel_rfl
theorem tie267 : compF Tryd.prog ids (fun i => ([[0, 1, 4], [0, 1, 4, 5, 6], [0, 1, 4, 5, 6, 24], [0, 1, 4, 5, 6], [0, 1, 4, 5, 6], [4, 6, 7], [4, 7, 50], [4, 7], [4]] : List (List Nat)).getD i []) false false false false Tryd.f132 = some F267 := by kernel_rfl
theorem tie268 : compF Tryd.prog ids (fun i => ([[0, 1], [4]] : List (List Nat)).getD i []) false false false false Tryd.f133 = some F268 := by kernel_rfl
theorem tie269 : compF Tryd.prog ids (fun i => ([[0, 1], [1, 5], [4]] : List (List Nat)).getD i []) false false false false Tryd.f134 = some F269 := by kernel_rfl
theorem tie270 : compF Tryd.prog ids (fun i => ([[0, 1, 13], [0, 1], []] : List (List Nat)).getD i []) false false false false Tryd.f135 = some F270 := by kernel_rfl
theorem tie271 : compF Tryd.prog ids (fun i => ([[0, 1, 4], [0, 1, 4, 5], [0, 1, 4, 5, 11], [0, 1, 4, 5], [0, 1, 4, 5], [4], [0, 1, 4, 5, 28], [0, 1, 4, 5, 6], [0, 1, 4, 5, 6], [4], [0, 1, 4, 5, 47], [4], [0, 1, 4, 5, 54], [0, 1, 4], [0, 1, 4, 7], [4], [0, 1, 4, 5, 70], [0, 1, 4], [0, 1, 4, 8], [0, 1, 4, 8], [4], [0, 4, 5, 89], [0, 4], [4], [4], [4]] : List (List Nat)).getD i []) false false false false Tryd.f136 = some F271 := by kernel_rfl
theorem tie272 : compF Tryd.prog ids (fun i => ([[0, 6], [], [19]] : List (List Nat)).getD i []) false false false false Tryd.f137 = some F272 := by kernel_rfl
theorem tie273 : compF Tryd.prog ids (fun i => ([[0, 2, 4], [0, 2, 4, 6], [0, 4, 6, 12], [0, 4, 6], [0, 4, 6], [0, 4, 6, 19], [0, 4, 6, 19, 20], [], [0, 4, 6, 19, 28], [0, 32], [], [], [0, 4, 6, 19, 39], [0, 4, 6, 19, 39], [], [0, 4, 6, 19, 47], [0, 4], [0], [], [0, 4, 6, 19, 61], [0, 4, 6], [], [0, 4, 6, 73], [0, 4, 6, 7], [0, 4, 6, 7, 77], [0, 4, 6, 7], [0, 4, 6], [0, 4, 6], []] : List (List Nat)).getD i []) false false true false Tryd.f138 = some F273 := by kernel_rfl
theorem tie274 : compF Tryd.prog ids (fun i => ([[1, 2, 4], [1, 2, 4, 9], [4], [4]] : List (List Nat)).getD i []) false false false false Tryd.f139 = some F274 := by kernel_rfl
theorem tie22 : compF Tryd.prog ids (fun i => ([[0], [3], [2]] : List (List Nat)).getD i []) false false false false Tryd.f140 = some F22 := by kernel_rfl
theorem tie24 : compF Tryd.prog ids (fun i => ([[0, 1, 2, 6], [0, 1, 2, 6, 10], [0, 1, 2, 6], [0, 1, 2, 6, 7], [0, 2, 6, 7, 16], [0, 2, 6, 7, 22], [6], [0, 2, 6, 7, 27], [6], [0, 2, 6, 35], [6], [6], [0, 2, 6, 7, 67], [0, 6, 7, 70], [6], [0, 6, 77], [6], [6], [0, 2, 6, 7, 86], [6], [0, 2, 6, 94], [6], [6]] : List (List Nat)).getD i []) false false false false Tryd.f141 = some F24 := by kernel_rfl
theorem tie34 : compF Tryd.prog ids (fun i => ([[0, 1], [4]] : List (List Nat)).getD i []) false false false false Tryd.f142 = some F34 := by kernel_rfl
theorem tie275 : compF Tryd.prog ids (fun i => ([[0, 1], [4]] : List (List Nat)).getD i []) false false false false Tryd.f147 = some F275 := by kernel_rfl
theorem tie276 : compF Tryd.prog ids (fun i => ([[0, 1], [4]] : List (List Nat)).getD i []) false false false false Tryd.f148 = some F276 := by kernel_rfl
theorem tie277 : compF Tryd.prog ids (fun i => ([[0, 2], [0, 2, 3], [2, 3], [2]] : List (List Nat)).getD i []) false false false false Tryd.f149 = some F277 := by kernel_rfl
theorem tie278 : compF Tryd.prog ids (fun i => ([[0, 3, 4], [3, 4], [4]] : List (List Nat)).getD i []) false false false false Tryd.f150 = some F278 := by kernel_rfl
theorem tie279 : compF Tryd.prog ids (fun i => ([[2, 3, 4], [4]] : List (List Nat)).getD i []) false false false false Tryd.f151 = some F279 := by kernel_rfl
theorem tie280 : compF Tryd.prog ids (fun i => ([[0, 1, 4], [0, 1, 4], [0, 1, 4], [0, 4, 5], [4, 5], [4]] : List (List Nat)).getD i []) false false false false Tryd.f152 = some F280 := by kernel_rfl
theorem tie281 : compF Tryd.prog ids (fun i => ([[0, 1, 4], [0, 1, 4], [0, 1, 4, 5], [0, 1, 4, 5, 6, 7], [0, 1, 4, 5, 6, 7, 20], [0, 1, 4, 5, 6, 7], [4, 5, 6, 7], [4]] : List (List Nat)).getD i []) false false false false Tryd.f153 = some F281 := by kernel_rfl
theorem tie282 : compF Tryd.prog ids (fun i => ([[1], [1, 3], [2], [1, 12], [2], [1, 16], [2], [21], [21, 22], [2], [21, 24], [2], [21, 26], [21, 26], [2], [21, 29], [29], [2], [2]] : List (List Nat)).getD i []) false false false false Tryd.f155 = some F282 := by kernel_rfl
theorem tie283 : compF Tryd.prog ids (fun i => ([[0], [2]] : List (List Nat)).getD i []) false false false false Tryd.f156 = some F283 := by kernel_rfl
theorem tie284 : compF Tryd.prog ids (fun i => ([[0, 1], [0, 1, 7, 8], [0, 1, 7, 8, 9], [0, 1, 5, 7, 8], [0, 1, 5, 7, 8, 16], [4], [0, 1, 7, 8], [4]] : List (List Nat)).getD i []) false false false false Tryd.f159 = some F284 := by kernel_rfl
theorem tie285 : compF Tryd.prog ids (fun i => ([[0, 1, 2, 6], [0, 1, 2, 6, 7], [0, 1, 2, 6, 7, 13], [0, 1, 2, 6, 7, 8], [0, 1, 2, 6, 7], [6]] : List (List Nat)).getD i []) false false false false Tryd.f160 = some F285 := by kernel_rfl
theorem tie286 : compF Tryd.prog ids (fun i => ([[0, 1, 2], [2]] : List (List Nat)).getD i []) false false false false Tryd.f161 = some F286 := by kernel_rfl
theorem tie287 : compF Tryd.prog ids (fun i => ([[2, 3, 4], [4]] : List (List Nat)).getD i []) false false false false Tryd.f162 = some F287 := by kernel_rfl
theorem tie288 : compF Tryd.prog ids (fun i => ([[0], [2]] : List (List Nat)).getD i []) false false false false Tryd.f163 = some F288 := by kernel_rfl
theorem tie289 : compF Tryd.prog ids (fun i => ([[0, 1, 2], [2]] : List (List Nat)).getD i []) false false false false Tryd.f164 = some F289 := by kernel_rfl
theorem tie290 : compF Tryd.prog ids (fun i => ([[0, 1, 4], [0, 1, 4, 7], [0, 1, 4], [4], [4]] : List (List Nat)).getD i []) false false false false Tryd.f165 = some F290 := by kernel_rfl
theorem tie291 : compF Tryd.prog ids (fun i => ([[0, 1], [0, 1, 11], [0, 17], [4], [0, 5], [0, 5, 6], [0, 5, 6, 23], [0, 5, 6], [0, 5, 6, 7], [0, 5, 7], [5, 7, 34], [5, 7], [4], [4], [9], [4]] : List (List Nat)).getD i []) false false false false Tryd.f166 = some F291 := by kernel_rfl
theorem tie292 : compF Tryd.prog ids (fun i => ([[0, 1, 4], [0, 1, 4, 5], [0, 1, 4, 5, 13], [4], [0, 1, 4, 5, 6], [4]] : List (List Nat)).getD i []) false false false false Tryd.f167 = some F292 := by kernel_rfl
theorem tie293 : compF Tryd.prog ids (fun i => ([[0], [0, 4], [2], [2]] : List (List Nat)).getD i []) false false false false Tryd.f168 = some F293 := by kernel_rfl
theorem tie294 : compF Tryd.prog ids (fun i => ([[0], [0, 3], [2]] : List (List Nat)).getD i []) false false false false Tryd.f169 = some F294 := by kernel_rfl
theorem tie295 : compF Tryd.prog ids (fun i => ([[0, 1, 4], [0, 1, 4, 20], [0, 1, 4, 5], [0, 1, 4, 5], [0, 1, 4, 6, 7], [0, 1, 4, 6, 8, 9], [0, 1, 4, 8, 9, 10, 11], [0, 1, 4, 8, 10, 11], [0, 1, 4, 10, 11], [0, 1, 4, 10], [0, 1, 4], [0, 1, 4], [0, 4, 12], [0, 4, 12, 99], [0, 4, 12, 13], [0, 4, 12, 13], [0, 4, 12, 14, 15], [0, 4, 12, 14], [0, 4, 12], [0, 4, 12], [0, 4, 12, 139], [0, 4, 12, 16], [0, 4, 12, 16], [0, 4, 12], [0, 4, 12], [0, 12, 161], []] : List (List Nat)).getD i []) false false false false Tryd.f170 = some F295 := by kernel_rfl
theorem tie297 : compF Tryd.prog ids (fun i => ([[2, 3, 4], [4]] : List (List Nat)).getD i []) false false false false Tryd.f172 = some F297 := by kernel_rfl
theorem tie298 : compF Tryd.prog ids (fun i => ([[0], [2]] : List (List Nat)).getD i []) false false false false Tryd.f173 = some F298 := by kernel_rfl
theorem tie299 : compF Tryd.prog ids (fun i => ([[0, 2], [0, 2, 4], [0], [0, 2], [0, 2, 8], [0, 2], [0, 2], [0, 2, 14], [0, 2], [0, 2], [2]] : List (List Nat)).getD i []) false false false false Tryd.f174 = some F299 := by kernel_rfl
theorem tie300 : compF Tryd.prog ids (fun i => ([[0], [3], [2], [2]] : List (List Nat)).getD i []) false false false false Tryd.f175 = some F300 := by kernel_rfl
theorem tie303 : compF Tryd.prog ids (fun i => ([[0, 1, 2], [2]] : List (List Nat)).getD i []) false false false false Tryd.f178 = some F303 := by kernel_rfl
theorem tie304 : compF Tryd.prog ids (fun i => ([[2, 3, 4], [4]] : List (List Nat)).getD i []) false false false false Tryd.f179 = some F304 := by kernel_rfl
theorem tie307 : compF Tryd.prog ids (fun i => ([[0, 1, 2], [2]] : List (List Nat)).getD i []) false false false false Tryd.f182 = some F307 := by kernel_rfl
theorem tie308 : compF Tryd.prog ids (fun i => ([[0, 1, 4], [0, 1, 4, 7], [0, 1, 4], [4], [4]] : List (List Nat)).getD i []) false false false false Tryd.f183 = some F308 := by kernel_rfl
theorem tie309 : compF Tryd.prog ids (fun i => ([[0, 1, 4], [0, 1, 4, 5], [0, 1, 4, 5, 9], [4, 5], [4], [0, 1, 4, 5, 18], [4, 5], [4], [0, 1, 4, 5, 27], [4], [0, 1, 4, 5, 38], [4], [4], [0, 1, 4, 5, 45], [4], [4], [0, 1, 4, 5, 52], [4, 5], [4], [0, 1, 4], [0, 4, 6], [4, 6], [4]] : List (List Nat)).getD i []) false false false false Tryd.f184 = some F309 := by kernel_rfl
def fid : Fid := ⟨fidF, fun N c pc => 2 * N ≤ dkey ∧ ∃ K ow d, comp Tryd.prog (ids.with ow d) N K c = some pc, fidT, fun g t nm => ∃ f, methT Tryd.prog t nm = some f ∧ ids.fn f = some g, ids.gl⟩
theorem hid : Ties Tryd.prog ids fid := by
  refine ⟨fun f g h => ?_, fun t u h => ?_, fun _ _ _ => Iff.rfl, fun _ _ h => h⟩
  · simp only [ids, idsF] at h
    split at h <;> first | (cases h; rfl) | cases h
  · simp only [ids, idsT] at h
    first | cases h | (split at h <;> first | (cases h; rfl) | cases h)
theorem hcr : Codes Tryd.prog ids fid := fun _ _ _ => Iff.rfl
theorem mixed : Tryd.prog.follows .mixedOrders = true := by kernel_rfl
theorem tied : Tied Tryd.prog ids fid prog13d := fun f pf h => by
  unfold prog13d at h
  split at h
  · cases h; exact ⟨Tryd.f71, _, _, _, _, Tryd.func71, tie8⟩
  · cases h; exact ⟨Tryd.f36, _, _, _, _, Tryd.func36, tie10⟩
  · cases h; exact ⟨Tryd.f35, _, _, _, _, Tryd.func35, tie11⟩
  · cases h; exact ⟨Tryd.f37, _, _, _, _, Tryd.func37, tie12⟩
  · cases h; exact ⟨Tryd.f38, _, _, _, _, Tryd.func38, tie14⟩
  · cases h; exact ⟨Tryd.f39, _, _, _, _, Tryd.func39, tie15⟩
  · cases h; exact ⟨Tryd.f11, _, _, _, _, Tryd.func11, tie17⟩
  · cases h; exact ⟨Tryd.f70, _, _, _, _, Tryd.func70, tie18⟩
  · cases h; exact ⟨Tryd.f140, _, _, _, _, Tryd.func140, tie22⟩
  · cases h; exact ⟨Tryd.f64, _, _, _, _, Tryd.func64, tie23⟩
  · cases h; exact ⟨Tryd.f141, _, _, _, _, Tryd.func141, tie24⟩
  · cases h; exact ⟨Tryd.f68, _, _, _, _, Tryd.func68, tie25⟩
  · cases h; exact ⟨Tryd.f72, _, _, _, _, Tryd.func72, tie26⟩
  · cases h; exact ⟨Tryd.f103, _, _, _, _, Tryd.func103, tie27⟩
  · cases h; exact ⟨Tryd.f69, _, _, _, _, Tryd.func69, tie29⟩
  · cases h; exact ⟨Tryd.f73, _, _, _, _, Tryd.func73, tie30⟩
  · cases h; exact ⟨Tryd.f74, _, _, _, _, Tryd.func74, tie32⟩
  · cases h; exact ⟨Tryd.f142, _, _, _, _, Tryd.func142, tie34⟩
  · cases h; exact ⟨Tryd.f104, _, _, _, _, Tryd.func104, tie35⟩
  · cases h; exact ⟨Tryd.f102, _, _, _, _, Tryd.func102, tie36⟩
  · cases h; exact ⟨Tryd.f105, _, _, _, _, Tryd.func105, tie37⟩
  · cases h; exact ⟨Tryd.f106, _, _, _, _, Tryd.func106, tie38⟩
  · cases h; exact ⟨Tryd.f107, _, _, _, _, Tryd.func107, tie39⟩
  · cases h; exact ⟨Tryd.f10, _, _, _, _, Tryd.func10, tie224⟩
  · cases h; exact ⟨Tryd.f21, _, _, _, _, Tryd.func21, tie228⟩
  · cases h; exact ⟨Tryd.f24, _, _, _, _, Tryd.func24, tie231⟩
  · cases h; exact ⟨Tryd.f53, _, _, _, _, Tryd.func53, tie239⟩
  · cases h; exact ⟨Tryd.f54, _, _, _, _, Tryd.func54, tie240⟩
  · cases h; exact ⟨Tryd.f55, _, _, _, _, Tryd.func55, tie241⟩
  · cases h; exact ⟨Tryd.f56, _, _, _, _, Tryd.func56, tie242⟩
  · cases h; exact ⟨Tryd.f57, _, _, _, _, Tryd.func57, tie243⟩
  · cases h; exact ⟨Tryd.f58, _, _, _, _, Tryd.func58, tie244⟩
  · cases h; exact ⟨Tryd.f59, _, _, _, _, Tryd.func59, tie245⟩
  · cases h; exact ⟨Tryd.f86, _, _, _, _, Tryd.func86, tie249⟩
  · cases h; exact ⟨Tryd.f87, _, _, _, _, Tryd.func87, tie250⟩
  · cases h; exact ⟨Tryd.f88, _, _, _, _, Tryd.func88, tie251⟩
  · cases h; exact ⟨Tryd.f89, _, _, _, _, Tryd.func89, tie252⟩
  · cases h; exact ⟨Tryd.f90, _, _, _, _, Tryd.func90, tie253⟩
  · cases h; exact ⟨Tryd.f91, _, _, _, _, Tryd.func91, tie254⟩
  · cases h; exact ⟨Tryd.f92, _, _, _, _, Tryd.func92, tie255⟩
  · cases h; exact ⟨Tryd.f93, _, _, _, _, Tryd.func93, tie256⟩
  · cases h; exact ⟨Tryd.f94, _, _, _, _, Tryd.func94, tie257⟩
  · cases h; exact ⟨Tryd.f95, _, _, _, _, Tryd.func95, tie258⟩
  · cases h; exact ⟨Tryd.f96, _, _, _, _, Tryd.func96, tie259⟩
  · cases h; exact ⟨Tryd.f97, _, _, _, _, Tryd.func97, tie260⟩
  · cases h; exact ⟨Tryd.f129, _, _, _, _, Tryd.func129, tie264⟩
  · cases h; exact ⟨Tryd.f130, _, _, _, _, Tryd.func130, tie265⟩
  · cases h; exact ⟨Tryd.f131, _, _, _, _, Tryd.func131, tie266⟩
  · cases h; exact ⟨Tryd.f132, _, _, _, _, Tryd.func132, tie267⟩
  · cases h; exact ⟨Tryd.f133, _, _, _, _, Tryd.func133, tie268⟩
  · cases h; exact ⟨Tryd.f134, _, _, _, _, Tryd.func134, tie269⟩
  · cases h; exact ⟨Tryd.f135, _, _, _, _, Tryd.func135, tie270⟩
  · cases h; exact ⟨Tryd.f136, _, _, _, _, Tryd.func136, tie271⟩
  · cases h; exact ⟨Tryd.f137, _, _, _, _, Tryd.func137, tie272⟩
  · cases h; exact ⟨Tryd.f138, _, _, _, _, Tryd.func138, tie273⟩
  · cases h; exact ⟨Tryd.f139, _, _, _, _, Tryd.func139, tie274⟩
  · cases h; exact ⟨Tryd.f147, _, _, _, _, Tryd.func147, tie275⟩
  · cases h; exact ⟨Tryd.f148, _, _, _, _, Tryd.func148, tie276⟩
  · cases h; exact ⟨Tryd.f149, _, _, _, _, Tryd.func149, tie277⟩
  · cases h; exact ⟨Tryd.f150, _, _, _, _, Tryd.func150, tie278⟩
  · cases h; exact ⟨Tryd.f151, _, _, _, _, Tryd.func151, tie279⟩
  · cases h; exact ⟨Tryd.f152, _, _, _, _, Tryd.func152, tie280⟩
  · cases h; exact ⟨Tryd.f153, _, _, _, _, Tryd.func153, tie281⟩
  · cases h; exact ⟨Tryd.f155, _, _, _, _, Tryd.func155, tie282⟩
  · cases h; exact ⟨Tryd.f156, _, _, _, _, Tryd.func156, tie283⟩
  · cases h; exact ⟨Tryd.f159, _, _, _, _, Tryd.func159, tie284⟩
  · cases h; exact ⟨Tryd.f160, _, _, _, _, Tryd.func160, tie285⟩
  · cases h; exact ⟨Tryd.f161, _, _, _, _, Tryd.func161, tie286⟩
  · cases h; exact ⟨Tryd.f162, _, _, _, _, Tryd.func162, tie287⟩
  · cases h; exact ⟨Tryd.f163, _, _, _, _, Tryd.func163, tie288⟩
  · cases h; exact ⟨Tryd.f164, _, _, _, _, Tryd.func164, tie289⟩
  · cases h; exact ⟨Tryd.f165, _, _, _, _, Tryd.func165, tie290⟩
  · cases h; exact ⟨Tryd.f166, _, _, _, _, Tryd.func166, tie291⟩
  · cases h; exact ⟨Tryd.f167, _, _, _, _, Tryd.func167, tie292⟩
  · cases h; exact ⟨Tryd.f168, _, _, _, _, Tryd.func168, tie293⟩
  · cases h; exact ⟨Tryd.f169, _, _, _, _, Tryd.func169, tie294⟩
  · cases h; exact ⟨Tryd.f170, _, _, _, _, Tryd.func170, tie295⟩
  · cases h; exact ⟨Tryd.f172, _, _, _, _, Tryd.func172, tie297⟩
  · cases h; exact ⟨Tryd.f173, _, _, _, _, Tryd.func173, tie298⟩
  · cases h; exact ⟨Tryd.f174, _, _, _, _, Tryd.func174, tie299⟩
  · cases h; exact ⟨Tryd.f175, _, _, _, _, Tryd.func175, tie300⟩
  · cases h; exact ⟨Tryd.f178, _, _, _, _, Tryd.func178, tie303⟩
  · cases h; exact ⟨Tryd.f179, _, _, _, _, Tryd.func179, tie304⟩
  · cases h; exact ⟨Tryd.f182, _, _, _, _, Tryd.func182, tie307⟩
  · cases h; exact ⟨Tryd.f183, _, _, _, _, Tryd.func183, tie308⟩
  · cases h; exact ⟨Tryd.f184, _, _, _, _, Tryd.func184, tie309⟩
  · cases h
theorem glb {w : World} (h : laidMet Tryd.prog [("math/bits.deBruijn32tab", Rows.laid_math_bits_deBruijn32tab), ("math/bits.deBruijn64tab", Rows.laid_math_bits_deBruijn64tab), ("internal/strconv.uint64pow10", Rows.laid_internal_strconv_uint64pow10)] w) : GlbAt fid w := fun g cs hg => by
  simp only [fid, ids, idsG] at hg
  split at hg
  · cases hg
    exact ⟨((List.range 20).map fun i => Value.int .u64 (10 ^ i : Nat)), glb_of_laids (P := Tryd.prog) (n := "internal/strconv.uint64pow10") (d := Rows.laid_internal_strconv_uint64pow10) (L := [("math/bits.deBruijn32tab", Rows.laid_math_bits_deBruijn32tab), ("math/bits.deBruijn64tab", Rows.laid_math_bits_deBruijn64tab), ("internal/strconv.uint64pow10", Rows.laid_internal_strconv_uint64pow10)]) (g := 2) (t := 190) (vs := ((List.range 20).map fun i => Value.int .u64 (10 ^ i : Nat))) (m := 3) (by simp) (by kernel_rfl) (by kernel_rfl) (by kernel_rfl) (by kernel_rfl) h⟩
  · cases hg
end Go.Proofs.YtjdbkncfebebnaaDoor.T
end ST13
