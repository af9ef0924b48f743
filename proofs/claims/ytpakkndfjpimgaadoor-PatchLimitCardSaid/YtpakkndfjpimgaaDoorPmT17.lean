/- The given program, held against the abstract one: function by function, by the kernel. -/
import Derived.Test.YtpakkndfjpimgaaDoorRows
import Derived.Test.YtpakkndfjpimgaaDoorPmY
import Derived.Test.YtpakkndfjpimgaaDoorPmF7
import Derived.KernelRfl
set_option linter.unusedSimpArgs false
set_option linter.unusedVariables false
section ST17
namespace Go.Proofs.YtpakkndfjpimgaaDoor.T
open Go.Pm Go.Pm.F
def idsF : FuncId → Option Nat := fun f => match f with
  | 3 => some 316
  | 4 => some 317
  | 5 => some 17
  | 6 => some 318
  | 7 => some 319
  | 8 => some 320
  | 9 => some 321
  | 10 => some 322
  | 11 => some 323
  | 12 => some 58
  | 13 => some 324
  | 14 => some 325
  | 15 => some 326
  | 16 => some 327
  | 17 => some 328
  | 18 => some 131
  | 19 => some 329
  | 20 => some 330
  | 21 => some 331
  | 22 => some 228
  | 23 => some 12
  | 24 => some 15
  | 25 => some 147
  | 26 => some 148
  | 27 => some 139
  | 28 => some 140
  | 29 => some 239
  | 30 => some 240
  | 31 => some 241
  | 32 => some 242
  | 33 => some 26
  | 34 => some 30
  | 35 => some 32
  | 36 => some 165
  | 37 => some 134
  | 38 => some 166
  | 39 => some 167
  | 40 => some 168
  | 41 => some 169
  | 42 => some 164
  | 43 => some 249
  | 44 => some 250
  | 45 => some 251
  | 46 => some 252
  | 47 => some 253
  | 48 => some 254
  | 49 => some 255
  | 50 => some 256
  | 51 => some 35
  | 52 => some 27
  | 53 => some 37
  | 54 => some 38
  | 55 => some 39
  | 56 => some 180
  | 57 => some 181
  | 58 => some 182
  | 59 => some 183
  | 60 => some 184
  | 61 => some 185
  | 62 => some 186
  | 63 => some 187
  | 64 => some 188
  | 65 => some 189
  | 66 => some 190
  | 67 => some 191
  | 68 => some 264
  | 69 => some 265
  | 70 => some 266
  | 71 => some 267
  | 72 => some 268
  | 73 => some 269
  | 74 => some 270
  | 75 => some 271
  | 76 => some 200
  | 77 => some 201
  | 78 => some 275
  | 79 => some 276
  | 80 => some 277
  | 81 => some 278
  | 82 => some 279
  | 83 => some 280
  | 84 => some 281
  | 85 => some 204
  | 87 => some 284
  | 88 => some 285
  | 89 => some 286
  | 90 => some 287
  | 91 => some 289
  | 92 => some 290
  | 93 => some 292
  | 94 => some 297
  | 95 => some 303
  | 96 => some 304
  | 97 => some 307
  | 98 => some 308
  | 99 => some 309
  | _ => none
def idsT : TypeId → Option Nat := fun t => match t with
  | 23 => some 1
  | 5 => some 3
  | _ => none
def idsG : Nat → Option (List D) := fun g => match g with
  | 0 => some G_arenanet_compile_effects
  | _ => none
def ids : Ids := ⟨idsF, idsT, idsG, false, false⟩
def fidF : Nat → FuncId := fun k => match k with
  | 316 => 3
  | 317 => 4
  | 17 => 5
  | 318 => 6
  | 319 => 7
  | 320 => 8
  | 321 => 9
  | 322 => 10
  | 323 => 11
  | 58 => 12
  | 324 => 13
  | 325 => 14
  | 326 => 15
  | 327 => 16
  | 328 => 17
  | 131 => 18
  | 329 => 19
  | 330 => 20
  | 331 => 21
  | 228 => 22
  | 12 => 23
  | 15 => 24
  | 147 => 25
  | 148 => 26
  | 139 => 27
  | 140 => 28
  | 239 => 29
  | 240 => 30
  | 241 => 31
  | 242 => 32
  | 26 => 33
  | 30 => 34
  | 32 => 35
  | 165 => 36
  | 134 => 37
  | 166 => 38
  | 167 => 39
  | 168 => 40
  | 169 => 41
  | 164 => 42
  | 249 => 43
  | 250 => 44
  | 251 => 45
  | 252 => 46
  | 253 => 47
  | 254 => 48
  | 255 => 49
  | 256 => 50
  | 35 => 51
  | 27 => 52
  | 37 => 53
  | 38 => 54
  | 39 => 55
  | 180 => 56
  | 181 => 57
  | 182 => 58
  | 183 => 59
  | 184 => 60
  | 185 => 61
  | 186 => 62
  | 187 => 63
  | 188 => 64
  | 189 => 65
  | 190 => 66
  | 191 => 67
  | 264 => 68
  | 265 => 69
  | 266 => 70
  | 267 => 71
  | 268 => 72
  | 269 => 73
  | 270 => 74
  | 271 => 75
  | 200 => 76
  | 201 => 77
  | 275 => 78
  | 276 => 79
  | 277 => 80
  | 278 => 81
  | 279 => 82
  | 280 => 83
  | 281 => 84
  | 204 => 85
  | 284 => 87
  | 285 => 88
  | 286 => 89
  | 287 => 90
  | 289 => 91
  | 290 => 92
  | 292 => 93
  | 297 => 94
  | 303 => 95
  | 304 => 96
  | 307 => 97
  | 308 => 98
  | 309 => 99
  | _ => 0
def fidT : Nat → TypeId := fun k => match k with
  | 1 => 23
  | 3 => 5
  | _ => 0

theorem tie316 : compF Tryd.prog ids (fun i => ([[0, 1], [0, 1, 5, 6], [0, 1, 5, 21], [4], [1, 5, 7], [5, 7, 8], [5, 7, 8, 9], [5, 7, 8, 9, 29], [5, 7, 8, 9], [5, 7, 8, 9, 10], [5, 7, 8, 9, 10, 33], [5, 7, 8, 9, 10], [5, 7, 8, 9, 42], [4], [5, 7, 49], [4], [7, 11], [4]] : List (List Nat)).getD i []) false false false false Tryd.f3 = some F316 := by kernel_rfl
theorem tie317 : compF Tryd.prog ids (fun i => ([[0], [4, 5], [4, 5, 12], [2, 3], [2, 3]] : List (List Nat)).getD i []) false false false false Tryd.f4 = some F317 := by kernel_rfl
theorem tie17 : compF Tryd.prog ids (fun i => ([[0, 1], [0, 1, 6], [0, 1], [4]] : List (List Nat)).getD i []) false false false false Tryd.f5 = some F17 := by kernel_rfl
theorem tie318 : compF Tryd.prog ids (fun i => ([[0, 1, 2], [0, 1, 2, 14], [6], [0, 1, 2, 29], [6], [0, 1, 7, 8], [0, 1, 7, 8, 36], [6], [], [6]] : List (List Nat)).getD i []) false false false false Tryd.f6 = some F318 := by kernel_rfl
theorem tie319 : compF Tryd.prog ids (fun i => ([[0], [3], [2]] : List (List Nat)).getD i []) false false false false Tryd.f7 = some F319 := by kernel_rfl
theorem tie320 : compF Tryd.prog ids (fun i => ([[0], [0, 3], [3, 15, 16, 17], [3, 15, 16, 17, 18], [3, 4, 5, 15, 16, 17], [3, 15, 16, 17], [3, 15, 16, 17], [2]] : List (List Nat)).getD i []) false false false false Tryd.f8 = some F320 := by kernel_rfl
theorem tie321 : compF Tryd.prog ids (fun i => ([[], [1, 2], [1, 17], [0], [1, 3], [1, 3, 4, 5], [1, 3, 4, 5, 6, 7], [0]] : List (List Nat)).getD i []) false false false false Tryd.f9 = some F321 := by kernel_rfl
theorem tie322 : compF Tryd.prog ids (fun i => ([[0, 2], [2, 4, 5], [2, 5, 6], [2, 3]] : List (List Nat)).getD i []) false false false false Tryd.f10 = some F322 := by kernel_rfl
theorem tie323 : compF Tryd.prog ids (fun i => ([[2, 3, 5], [2, 5, 6], [2, 5, 7], [5, 7, 8], [4, 5]] : List (List Nat)).getD i []) false false false false Tryd.f11 = some F323 := by kernel_rfl
theorem tie58 : compF Tryd.prog ids (fun i => ([[0, 1], [0, 1, 10], [4], [0, 1, 5], [0, 1, 5, 14], [0, 1, 5], [0, 1, 5, 25], [4], [4]] : List (List Nat)).getD i []) false false false false Tryd.f12 = some F58 := by kernel_rfl
theorem tie324 : compF Tryd.prog ids (fun i => ([[0, 1, 2, 6], [0, 1, 2, 6, 10], [1, 6, 8], [6, 7], [6, 7]] : List (List Nat)).getD i []) false false false false Tryd.f13 = some F324 := by kernel_rfl
theorem tie325 : compF Tryd.prog ids (fun i => ([[0, 2], [2, 4, 6], [2, 3]] : List (List Nat)).getD i []) false false false false Tryd.f14 = some F325 := by kernel_rfl
theorem tie326 : compF Tryd.prog ids (fun i => ([[1, 2, 3, 6], [1, 2, 3, 6, 10], [1, 6, 8], [6, 7], [6, 7]] : List (List Nat)).getD i []) false false false false Tryd.f15 = some F326 := by kernel_rfl
theorem tie327 : compF Tryd.prog ids (fun i => ([[1, 2], [2, 3]] : List (List Nat)).getD i []) false false false false Tryd.f16 = some F327 := by kernel_rfl
theorem tie328 : compF Tryd.prog ids (fun i => ([[1, 2, 3, 6], [1, 2, 3, 6, 10], [1, 6, 8], [6, 7], [6, 7]] : List (List Nat)).getD i []) false false false false Tryd.f17 = some F328 := by kernel_rfl
theorem tie131 : compF Tryd.prog ids (fun i => ([[1, 2], [1, 2, 4], [1, 2, 4, 17, 18, 19], [1, 2, 4, 17, 18, 19, 20], [1, 2, 4, 5, 6, 17, 18, 19], [1, 2, 4, 17, 18, 19], [1, 2, 4, 17, 18, 19], [2, 4, 33, 34], [2, 4, 33, 34, 35], [2, 4, 7, 8, 33, 34], [2, 4, 7, 8, 33, 34], [2, 4, 7, 8, 33, 34, 45], [2, 4, 8, 33, 34], [2, 4, 33, 34], [2, 4, 33, 34], [2, 4, 33, 34], [2, 4, 73], [2, 3], [2, 9], [2, 9, 86, 87], [2, 9, 86, 87, 88], [2, 9, 11, 86, 87], [2, 9, 86, 87, 98], [2, 3], [2, 9, 86, 87], [2, 3]] : List (List Nat)).getD i []) false false false false Tryd.f18 = some F131 := by kernel_rfl
theorem tie329 : compF Tryd.prog ids (fun i => ([[0, 1], [1, 5, 6], [1, 5, 6, 11], [1, 5, 6, 7], [1, 5, 6, 7, 21], [1, 5, 6], [1, 5, 6], [4]] : List (List Nat)).getD i []) false false false false Tryd.f19 = some F329 := by kernel_rfl
theorem tie330 : compF Tryd.prog ids (fun i => ([[0, 1, 2], [4]] : List (List Nat)).getD i []) false false false false Tryd.f20 = some F330 := by kernel_rfl
theorem tie331 : compF Tryd.prog ids (fun i => ([[0], [0, 4], [2], [2]] : List (List Nat)).getD i []) false false false false Tryd.f21 = some F331 := by kernel_rfl
theorem tie228 : compF Tryd.prog ids (fun i => ([[0, 2, 3, 4], [0, 2, 3, 4, 9], [2, 3, 4], [2, 3, 4, 5], [2, 3, 4, 5], [2, 3, 4, 5, 19], [5, 6], [], [2, 3, 4]] : List (List Nat)).getD i []) false false true false Tryd.f22 = some F228 := by kernel_rfl
theorem tie12 : compF Tryd.prog ids (fun i => ([[1], [1, 3], [1, 3, 8, 9], [1, 3, 8, 9, 10], [1, 3, 5, 8, 9], [1, 3, 8, 9, 20], [2], [1, 3, 8, 9], [25], [2], [2]] : List (List Nat)).getD i []) false false false false Tryd.f23 = some F12 := by kernel_rfl
theorem tie15 : compF Tryd.prog ids (fun i => ([[1], [1, 3], [1, 3, 4], [3, 4, 12, 13], [3, 4, 12, 13, 14], [3, 4, 6, 12, 13], [3, 4, 12, 13, 17], [3, 4, 7], [3, 4, 7, 26], [3, 4, 7, 9], [3, 4, 7, 35], [3, 7], [], [3, 4, 12, 13], [2]] : List (List Nat)).getD i []) false false false false Tryd.f24 = some F15 := by kernel_rfl
theorem tie147 : compF Tryd.prog ids (fun i => ([[0, 3], [0, 3, 5], [], [0, 3, 5, 9], [0, 3, 5, 9], [], [0, 3, 5, 16], [], [0, 3, 5, 27], [0, 3], [], [0, 3, 5, 37], [], [0, 3, 5, 42], [], [0, 3, 47], []] : List (List Nat)).getD i []) false false false false Tryd.f25 = some F147 := by kernel_rfl
theorem tie148 : compF Tryd.prog ids (fun i => ([[0, 1, 2], [0], [6]] : List (List Nat)).getD i []) false true false false Tryd.f26 = some F148 := by kernel_rfl
theorem tie139 : compF Tryd.prog ids (fun i => ([[1, 2, 4], [1, 2, 4, 5], [1, 2, 4, 5, 6], [1, 2, 4, 5, 6], [2, 4, 5, 6, 7], [2, 4, 5, 6, 7, 24], [2, 4, 5, 6, 7, 8], [2, 4, 5, 6, 7, 8], [2, 4, 5, 6, 7, 8, 9], [2, 4, 5, 6, 7, 8, 9, 10], [2, 4, 5, 6, 7, 8, 9, 10, 52], [2, 4, 5, 6, 7, 8, 9, 10], [2, 4, 5, 6, 7, 8, 10], [2, 4, 5, 6, 7, 8, 10], [2, 4, 5, 6, 7, 10, 68, 69, 70], [2, 4, 5, 6, 7, 10, 68, 69, 70, 71], [2, 4, 5, 6, 7, 10, 12, 68, 69, 70], [2, 4, 5, 6, 7, 10, 12, 68, 69, 70, 74], [2, 4, 5, 6, 7, 10, 68, 69, 70], [2, 4, 5, 6, 7, 10, 12, 68, 69, 70, 81], [2, 4, 5, 6, 7, 10, 12, 68, 69, 70], [2, 4, 5, 6, 7, 10, 68, 69, 70], [2, 4, 5, 6, 7, 10, 68, 69, 70, 97], [2, 4, 5, 6, 7, 10, 68, 69, 70], [2, 4, 5, 6, 7, 10, 68, 69, 70], [4]] : List (List Nat)).getD i []) false true false false Tryd.f27 = some F139 := by kernel_rfl
theorem tie140 : compF Tryd.prog ids (fun i => ([[1], [2]] : List (List Nat)).getD i []) false false false false Tryd.f28 = some F140 := by kernel_rfl
theorem tie239 : compF Tryd.prog ids (fun i => ([[0, 2], [2]] : List (List Nat)).getD i []) false false false false Tryd.f29 = some F239 := by kernel_rfl
theorem tie240 : compF Tryd.prog ids (fun i => ([[0, 1, 2, 3, 5], []] : List (List Nat)).getD i []) false false false true Tryd.f30 = some F240 := by kernel_rfl
theorem tie241 : compF Tryd.prog ids (fun i => ([[1], [2]] : List (List Nat)).getD i []) false false false false Tryd.f31 = some F241 := by kernel_rfl
theorem tie242 : compF Tryd.prog ids (fun i => ([[0, 2], [0, 2, 3], [0, 2, 3, 8], [0, 2, 3], [0, 2, 3, 4], [0, 2, 3, 4, 18], [0, 2, 3, 4], [0, 2, 3, 4], [0, 2, 3], [2]] : List (List Nat)).getD i []) false false false false Tryd.f32 = some F242 := by kernel_rfl
theorem tie26 : compF Tryd.prog ids (fun i => ([[0], [0, 1, 2, 3], [0]] : List (List Nat)).getD i []) false false false false Tryd.f33 = some F26 := by kernel_rfl
theorem tie30 : compF Tryd.prog ids (fun i => ([[2, 3], [2, 3, 5, 6], [2, 3, 5, 6, 13], [2, 3, 5, 6, 13, 14], [2, 3, 5, 6, 13, 16], [2, 3, 5, 6, 13, 18], [2, 3, 5, 13, 20], [2, 3, 5, 13, 20], [2, 3, 13, 23], [2, 3, 25], [4], [2, 5, 6, 38], [4], [4], [2, 3, 52], [4], [4], [4], [4], [4]] : List (List Nat)).getD i []) false false false false Tryd.f34 = some F30 := by kernel_rfl
theorem tie32 : compF Tryd.prog ids (fun i => ([[1], [2]] : List (List Nat)).getD i []) false false false false Tryd.f35 = some F32 := by kernel_rfl
theorem tie165 : compF Tryd.prog ids (fun i => ([[0, 2, 4], [0, 2, 4, 10], []] : List (List Nat)).getD i []) false false false false Tryd.f36 = some F165 := by kernel_rfl
theorem tie134 : compF Tryd.prog ids (fun i => ([[0], [0, 3], [4, 5], [4, 14], [2], [2]] : List (List Nat)).getD i []) false false false false Tryd.f37 = some F134 := by kernel_rfl
theorem tie166 : compF Tryd.prog ids (fun i => ([[0, 3], [0, 5], [], [0, 5, 8], [], [0, 12], []] : List (List Nat)).getD i []) false false false false Tryd.f38 = some F166 := by kernel_rfl
theorem tie167 : compF Tryd.prog ids (fun i => ([[0, 3], [0, 3], [0, 9], [], []] : List (List Nat)).getD i []) false false false false Tryd.f39 = some F167 := by kernel_rfl
theorem tie168 : compF Tryd.prog ids (fun i => ([[2, 3], [2, 3, 5], [2, 3], [2, 3], [], [2, 3, 5, 17], [], [2, 3, 5, 24], [], [2, 3, 5, 31], [2, 3, 5, 31], [2, 3], [2, 3], [], [2, 3, 45], [2, 3], [2], [2], []] : List (List Nat)).getD i []) false false false false Tryd.f40 = some F168 := by kernel_rfl
theorem tie169 : compF Tryd.prog ids (fun i => ([[2, 3], [2, 3, 6], [2, 3, 6, 7], [2, 3], [], [2, 3, 6, 21], [2, 3], [2, 3], [], [2, 3, 6, 34], [], [2, 3, 6, 41], [], [2, 3, 6, 46], [2, 3], [2], [], [2, 3, 6, 56], [], [2, 3, 60], [2, 3, 64, 65], [2, 3, 64, 65, 66], [2, 3, 4, 64, 65], [2, 3, 64, 65], [2, 3, 64, 65]] : List (List Nat)).getD i []) false false false false Tryd.f41 = some F169 := by kernel_rfl
theorem tie164 : compF Tryd.prog ids (fun i => ([[1, 2], [1, 5], [1, 5, 12], [1, 5, 12, 13], [4], [1, 5, 12, 15], [4], [1, 5, 20], [4], [4]] : List (List Nat)).getD i []) false false false false Tryd.f42 = some F164 := by kernel_rfl
theorem tie249 : compF Tryd.prog ids (fun i => ([[0, 1, 3], [0, 1, 4], [0, 1, 4, 23], [0, 1, 3]] : List (List Nat)).getD i []) false false false false Tryd.f43 = some F249 := by kernel_rfl
theorem tie250 : compF Tryd.prog ids (fun i => ([[0, 1, 4], [0, 1, 4, 13], [4], [0, 1, 4, 5], [0, 1, 4, 5, 22], [4], [0, 1, 4, 28], [4], [0, 1, 4, 41], [0, 1, 4, 6], [0, 1, 4, 6, 50], [0, 1, 4, 6, 50, 51], [0, 1, 4, 6, 50, 51], [0, 1, 4, 6, 50, 51], [0, 1, 4, 6, 50, 51], [0, 1, 4, 6, 50, 51], [0, 1, 4, 6, 51], [4], [0, 1, 4, 68], [4], [4]] : List (List Nat)).getD i []) false false false false Tryd.f44 = some F250 := by kernel_rfl
theorem tie251 : compF Tryd.prog ids (fun i => ([[0, 1], [0, 1, 5], [0, 1, 5, 13], [0, 1, 5], [0, 1, 5, 6], [4], [0, 1, 5, 6, 23], [0, 1, 5], [0, 1, 5, 6, 26], [0, 1, 36], [0, 1, 5], [4]] : List (List Nat)).getD i []) false false false false Tryd.f45 = some F251 := by kernel_rfl
theorem tie252 : compF Tryd.prog ids (fun i => ([[0, 2], [0, 2, 3], [0, 2, 3, 16], [2, 3], [2]] : List (List Nat)).getD i []) false false false false Tryd.f46 = some F252 := by kernel_rfl
theorem tie253 : compF Tryd.prog ids (fun i => ([[0, 8], [0], []] : List (List Nat)).getD i []) false false false false Tryd.f47 = some F253 := by kernel_rfl
theorem tie254 : compF Tryd.prog ids (fun i => ([[0], [0, 3], [0, 3, 7], [0, 3, 7, 8], [2], [0, 3, 7, 10], [2], [0, 3, 12], [2], [], [2]] : List (List Nat)).getD i []) false false false false Tryd.f48 = some F254 := by kernel_rfl
theorem tie255 : compF Tryd.prog ids (fun i => ([[0, 2, 4], [2], []] : List (List Nat)).getD i []) false false false false Tryd.f49 = some F255 := by kernel_rfl
theorem tie256 : compF Tryd.prog ids (fun i => ([[0, 1, 4], [0, 1, 4], [0, 1, 4, 5], [0, 1, 4, 5, 13], [0, 1, 4, 5], [4, 5], [4]] : List (List Nat)).getD i []) false false false false Tryd.f50 = some F256 := by kernel_rfl
theorem tie35 : compF Tryd.prog ids (fun i => ([[1, 2, 3], [1, 2, 3, 7], [1, 2, 3], [1, 2, 3, 15], [2, 3], [2, 3]] : List (List Nat)).getD i []) false false false false Tryd.f51 = some F35 := by kernel_rfl
theorem tie27 : compF Tryd.prog ids (fun i => ([[2, 3], [2, 3, 5, 6], [2, 3, 5, 6, 16], [2, 3, 5, 6, 16, 17], [2, 3, 5, 6, 16, 19], [2, 3, 5, 6, 16, 19], [2, 3, 5, 6, 16, 19], [2, 3, 5, 6, 16, 23], [2, 3, 5, 6, 16, 25], [2, 3, 5, 6, 27], [32], [4], [4], [4], [2, 3, 5, 7], [2, 5, 7, 35], [2, 5, 7], [7, 40], [4], [2, 5, 6, 8, 9], [8, 66], [4], [4]] : List (List Nat)).getD i []) false false false false Tryd.f52 = some F27 := by kernel_rfl
theorem tie37 : compF Tryd.prog ids (fun i => ([[1, 2], [2, 7, 8, 9], [2, 7, 8, 9, 10], [2, 6, 7, 8, 9], [2, 7, 8, 9, 16], [4], [2, 7, 8, 9], [4]] : List (List Nat)).getD i []) false false false false Tryd.f53 = some F37 := by kernel_rfl
theorem tie38 : compF Tryd.prog ids (fun i => ([[]] : List (List Nat)).getD i []) false false false false Tryd.f54 = some F38 := by kernel_rfl
theorem tie39 : compF Tryd.prog ids (fun i => ([[1, 2], [1, 2, 10], [4], [1, 12, 13, 14], [1, 12, 13, 14, 15], [1, 6, 12, 13, 14], [1, 12, 13, 14, 21], [4], [1, 12, 13, 14], [4]] : List (List Nat)).getD i []) false false false false Tryd.f55 = some F39 := by kernel_rfl
theorem tie180 : compF Tryd.prog ids (fun i => ([[0, 2, 3], [3], []] : List (List Nat)).getD i []) false false true false Tryd.f56 = some F180 := by kernel_rfl
theorem tie181 : compF Tryd.prog ids (fun i => ([[]] : List (List Nat)).getD i []) false false false false Tryd.f57 = some F181 := by kernel_rfl
theorem tie182 : compF Tryd.prog ids (fun i => ([[]] : List (List Nat)).getD i []) false false false false Tryd.f58 = some F182 := by kernel_rfl
theorem tie183 : compF Tryd.prog ids (fun i => ([[]] : List (List Nat)).getD i []) false false false false Tryd.f59 = some F183 := by kernel_rfl
theorem tie184 : compF Tryd.prog ids (fun i => ([[]] : List (List Nat)).getD i []) false false false false Tryd.f60 = some F184 := by kernel_rfl
theorem tie185 : compF Tryd.prog ids (fun i => ([[]] : List (List Nat)).getD i []) false false false false Tryd.f61 = some F185 := by kernel_rfl
theorem tie186 : compF Tryd.prog ids (fun i => ([[]] : List (List Nat)).getD i []) false false false false Tryd.f62 = some F186 := by kernel_rfl
theorem tie187 : compF Tryd.prog ids (fun i => ([[0], [3], [3, 4], [2], [3, 6], [2], [3, 8], [2], [3, 10], [2], [3, 12], [3, 12], [2], [3, 15], [15], [2], [2]] : List (List Nat)).getD i []) false false false false Tryd.f63 = some F187 := by kernel_rfl
theorem tie188 : compF Tryd.prog ids (fun i => ([[]] : List (List Nat)).getD i []) false false false false Tryd.f64 = some F188 := by kernel_rfl
theorem tie189 : compF Tryd.prog ids (fun i => ([[]] : List (List Nat)).getD i []) false false false false Tryd.f65 = some F189 := by kernel_rfl
theorem tie190 : compF Tryd.prog ids (fun i => ([[]] : List (List Nat)).getD i []) false false false false Tryd.f66 = some F190 := by kernel_rfl
theorem tie191 : compF Tryd.prog ids (fun i => ([[0, 3], [0, 3, 4], [0, 3, 4], [0, 3, 4], [0, 4], []] : List (List Nat)).getD i []) false false true false Tryd.f67 = some F191 := by kernel_rfl
theorem tie264 : compF Tryd.prog ids (fun i => ([[0], [2]] : List (List Nat)).getD i []) false false false false Tryd.f68 = some F264 := by kernel_rfl
theorem tie265 : compF Tryd.prog ids (fun i => ([[0, 1, 4], [0, 1, 4, 5], [0, 1, 4, 5, 34], [0, 1, 4, 5], [0, 4, 6], [4, 6, 7, 8], [4, 6, 7, 56], [4, 6], [4, 6, 62], [4, 6], [4]] : List (List Nat)).getD i []) false false false false Tryd.f69 = some F265 := by kernel_rfl
theorem tie266 : compF Tryd.prog ids (fun i => ([[0], [2]] : List (List Nat)).getD i []) false false false false Tryd.f70 = some F266 := by kernel_rfl
theorem tie267 : compF Tryd.prog ids (fun i => ([[0, 1, 4], [0, 1, 4, 5, 6], [0, 1, 4, 5, 6, 24], [0, 1, 4, 5, 6], [0, 1, 4, 5, 6], [4, 6, 7], [4, 7, 50], [4, 7], [4]] : List (List Nat)).getD i []) false false false false Tryd.f71 = some F267 := by kernel_rfl
theorem tie268 : compF Tryd.prog ids (fun i => ([[0, 1], [4]] : List (List Nat)).getD i []) false false false false Tryd.f72 = some F268 := by kernel_rfl
theorem tie269 : compF Tryd.prog ids (fun i => ([[0, 1], [1, 5], [4]] : List (List Nat)).getD i []) false false false false Tryd.f73 = some F269 := by kernel_rfl
theorem tie270 : compF Tryd.prog ids (fun i => ([[0, 1, 13], [0, 1], []] : List (List Nat)).getD i []) false false false false Tryd.f74 = some F270 := by kernel_rfl
theorem tie271 : compF Tryd.prog ids (fun i => ([[0, 1, 4], [0, 1, 4, 5], [0, 1, 4, 5, 11], [0, 1, 4, 5], [0, 1, 4, 5], [4], [0, 1, 4, 5, 28], [0, 1, 4, 5, 6], [0, 1, 4, 5, 6], [4], [0, 1, 4, 5, 47], [4], [0, 1, 4, 5, 54], [0, 1, 4], [0, 1, 4, 7], [4], [0, 1, 4, 5, 70], [0, 1, 4], [0, 1, 4, 8], [0, 1, 4, 8], [4], [0, 4, 5, 89], [0, 4], [4], [4], [4]] : List (List Nat)).getD i []) false false false false Tryd.f75 = some F271 := by kernel_rfl
theorem tie200 : compF Tryd.prog ids (fun i => ([[0, 1], [0, 1, 5], [0, 1], [0], [4]] : List (List Nat)).getD i []) false false true false Tryd.f76 = some F200 := by kernel_rfl
theorem tie201 : compF Tryd.prog ids (fun i => ([[1, 2], [2, 5], [4]] : List (List Nat)).getD i []) false false false false Tryd.f77 = some F201 := by kernel_rfl
theorem tie275 : compF Tryd.prog ids (fun i => ([[0, 1], [4]] : List (List Nat)).getD i []) false false false false Tryd.f78 = some F275 := by kernel_rfl
theorem tie276 : compF Tryd.prog ids (fun i => ([[0, 1], [4]] : List (List Nat)).getD i []) false false false false Tryd.f79 = some F276 := by kernel_rfl
theorem tie277 : compF Tryd.prog ids (fun i => ([[0, 2], [0, 2, 3], [2, 3], [2]] : List (List Nat)).getD i []) false false false false Tryd.f80 = some F277 := by kernel_rfl
theorem tie278 : compF Tryd.prog ids (fun i => ([[0, 3, 4], [3, 4], [4]] : List (List Nat)).getD i []) false false false false Tryd.f81 = some F278 := by kernel_rfl
theorem tie279 : compF Tryd.prog ids (fun i => ([[2, 3, 4], [4]] : List (List Nat)).getD i []) false false false false Tryd.f82 = some F279 := by kernel_rfl
theorem tie280 : compF Tryd.prog ids (fun i => ([[0, 1, 4], [0, 1, 4], [0, 1, 4], [0, 4, 5], [4, 5], [4]] : List (List Nat)).getD i []) false false false false Tryd.f83 = some F280 := by kernel_rfl
theorem tie281 : compF Tryd.prog ids (fun i => ([[0, 1, 4], [0, 1, 4], [0, 1, 4, 5], [0, 1, 4, 5, 6, 7], [0, 1, 4, 5, 6, 7, 20], [0, 1, 4, 5, 6, 7], [4, 5, 6, 7], [4]] : List (List Nat)).getD i []) false false false false Tryd.f84 = some F281 := by kernel_rfl
theorem tie204 : compF Tryd.prog ids (fun i => ([[]] : List (List Nat)).getD i []) false true false false Tryd.f85 = some F204 := by kernel_rfl
theorem tie284 : compF Tryd.prog ids (fun i => ([[0, 1], [0, 1, 7, 8], [0, 1, 7, 8, 9], [0, 1, 5, 7, 8], [0, 1, 5, 7, 8, 16], [4], [0, 1, 7, 8], [4]] : List (List Nat)).getD i []) false false false false Tryd.f87 = some F284 := by kernel_rfl
theorem tie285 : compF Tryd.prog ids (fun i => ([[0, 1, 2, 6], [0, 1, 2, 6, 7], [0, 1, 2, 6, 7, 13], [0, 1, 2, 6, 7, 8], [0, 1, 2, 6, 7], [6]] : List (List Nat)).getD i []) false false false false Tryd.f88 = some F285 := by kernel_rfl
theorem tie286 : compF Tryd.prog ids (fun i => ([[0, 1, 2], [2]] : List (List Nat)).getD i []) false false false false Tryd.f89 = some F286 := by kernel_rfl
theorem tie287 : compF Tryd.prog ids (fun i => ([[2, 3, 4], [4]] : List (List Nat)).getD i []) false false false false Tryd.f90 = some F287 := by kernel_rfl
theorem tie289 : compF Tryd.prog ids (fun i => ([[0, 1, 2], [2]] : List (List Nat)).getD i []) false false false false Tryd.f91 = some F289 := by kernel_rfl
theorem tie290 : compF Tryd.prog ids (fun i => ([[0, 1, 4], [0, 1, 4, 7], [0, 1, 4], [4], [4]] : List (List Nat)).getD i []) false false false false Tryd.f92 = some F290 := by kernel_rfl
theorem tie292 : compF Tryd.prog ids (fun i => ([[0, 1, 4], [0, 1, 4, 5], [0, 1, 4, 5, 13], [4], [0, 1, 4, 5, 6], [4]] : List (List Nat)).getD i []) false false false false Tryd.f93 = some F292 := by kernel_rfl
theorem tie297 : compF Tryd.prog ids (fun i => ([[2, 3, 4], [4]] : List (List Nat)).getD i []) false false false false Tryd.f94 = some F297 := by kernel_rfl
theorem tie303 : compF Tryd.prog ids (fun i => ([[0, 1, 2], [2]] : List (List Nat)).getD i []) false false false false Tryd.f95 = some F303 := by kernel_rfl
theorem tie304 : compF Tryd.prog ids (fun i => ([[2, 3, 4], [4]] : List (List Nat)).getD i []) false false false false Tryd.f96 = some F304 := by kernel_rfl
theorem tie307 : compF Tryd.prog ids (fun i => ([[0, 1, 2], [2]] : List (List Nat)).getD i []) false false false false Tryd.f97 = some F307 := by kernel_rfl
theorem tie308 : compF Tryd.prog ids (fun i => ([[0, 1, 4], [0, 1, 4, 7], [0, 1, 4], [4], [4]] : List (List Nat)).getD i []) false false false false Tryd.f98 = some F308 := by kernel_rfl
theorem tie309 : compF Tryd.prog ids (fun i => ([[0, 1, 4], [0, 1, 4, 5], [0, 1, 4, 5, 9], [4, 5], [4], [0, 1, 4, 5, 18], [4, 5], [4], [0, 1, 4, 5, 27], [4], [0, 1, 4, 5, 38], [4], [4], [0, 1, 4, 5, 45], [4], [4], [0, 1, 4, 5, 52], [4, 5], [4], [0, 1, 4], [0, 4, 6], [4, 6], [4]] : List (List Nat)).getD i []) false false false false Tryd.f99 = some F309 := by kernel_rfl
def fid : Fid := ⟨fidF, fun N c pc => 2 * N ≤ dkey ∧ ∃ K ow d, comp Tryd.prog (ids.with ow d) N K c = some pc, fidT, fun g t nm => ∃ f, methT Tryd.prog t nm = some f ∧ ids.fn f = some g, ids.gl⟩
theorem hid : Ties Tryd.prog ids fid := by
  refine ⟨fun f g h => ?_, fun t u h => ?_, fun _ _ _ => Iff.rfl, fun _ _ h => h⟩
  · simp only [ids, idsF] at h
    split at h <;> first | (cases h; rfl) | cases h
  · simp only [ids, idsT] at h
    first | cases h | (split at h <;> first | (cases h; rfl) | cases h)
theorem hcr : Codes Tryd.prog ids fid := fun _ _ _ => Iff.rfl
theorem mixed : Tryd.prog.follows .mixedOrders = true := by kernel_rfl
theorem tied : Tied Tryd.prog ids fid prog17d := fun f pf h => by
  unfold prog17d at h
  split at h
  · cases h; exact ⟨Tryd.f23, _, _, _, _, Tryd.func23, tie12⟩
  · cases h; exact ⟨Tryd.f24, _, _, _, _, Tryd.func24, tie15⟩
  · cases h; exact ⟨Tryd.f5, _, _, _, _, Tryd.func5, tie17⟩
  · cases h; exact ⟨Tryd.f33, _, _, _, _, Tryd.func33, tie26⟩
  · cases h; exact ⟨Tryd.f52, _, _, _, _, Tryd.func52, tie27⟩
  · cases h; exact ⟨Tryd.f34, _, _, _, _, Tryd.func34, tie30⟩
  · cases h; exact ⟨Tryd.f35, _, _, _, _, Tryd.func35, tie32⟩
  · cases h; exact ⟨Tryd.f51, _, _, _, _, Tryd.func51, tie35⟩
  · cases h; exact ⟨Tryd.f53, _, _, _, _, Tryd.func53, tie37⟩
  · cases h; exact ⟨Tryd.f54, _, _, _, _, Tryd.func54, tie38⟩
  · cases h; exact ⟨Tryd.f55, _, _, _, _, Tryd.func55, tie39⟩
  · cases h; exact ⟨Tryd.f12, _, _, _, _, Tryd.func12, tie58⟩
  · cases h; exact ⟨Tryd.f18, _, _, _, _, Tryd.func18, tie131⟩
  · cases h; exact ⟨Tryd.f37, _, _, _, _, Tryd.func37, tie134⟩
  · cases h; exact ⟨Tryd.f27, _, _, _, _, Tryd.func27, tie139⟩
  · cases h; exact ⟨Tryd.f28, _, _, _, _, Tryd.func28, tie140⟩
  · cases h; exact ⟨Tryd.f25, _, _, _, _, Tryd.func25, tie147⟩
  · cases h; exact ⟨Tryd.f26, _, _, _, _, Tryd.func26, tie148⟩
  · cases h; exact ⟨Tryd.f42, _, _, _, _, Tryd.func42, tie164⟩
  · cases h; exact ⟨Tryd.f36, _, _, _, _, Tryd.func36, tie165⟩
  · cases h; exact ⟨Tryd.f38, _, _, _, _, Tryd.func38, tie166⟩
  · cases h; exact ⟨Tryd.f39, _, _, _, _, Tryd.func39, tie167⟩
  · cases h; exact ⟨Tryd.f40, _, _, _, _, Tryd.func40, tie168⟩
  · cases h; exact ⟨Tryd.f41, _, _, _, _, Tryd.func41, tie169⟩
  · cases h; exact ⟨Tryd.f56, _, _, _, _, Tryd.func56, tie180⟩
  · cases h; exact ⟨Tryd.f57, _, _, _, _, Tryd.func57, tie181⟩
  · cases h; exact ⟨Tryd.f58, _, _, _, _, Tryd.func58, tie182⟩
  · cases h; exact ⟨Tryd.f59, _, _, _, _, Tryd.func59, tie183⟩
  · cases h; exact ⟨Tryd.f60, _, _, _, _, Tryd.func60, tie184⟩
  · cases h; exact ⟨Tryd.f61, _, _, _, _, Tryd.func61, tie185⟩
  · cases h; exact ⟨Tryd.f62, _, _, _, _, Tryd.func62, tie186⟩
  · cases h; exact ⟨Tryd.f63, _, _, _, _, Tryd.func63, tie187⟩
  · cases h; exact ⟨Tryd.f64, _, _, _, _, Tryd.func64, tie188⟩
  · cases h; exact ⟨Tryd.f65, _, _, _, _, Tryd.func65, tie189⟩
  · cases h; exact ⟨Tryd.f66, _, _, _, _, Tryd.func66, tie190⟩
  · cases h; exact ⟨Tryd.f67, _, _, _, _, Tryd.func67, tie191⟩
  · cases h; exact ⟨Tryd.f76, _, _, _, _, Tryd.func76, tie200⟩
  · cases h; exact ⟨Tryd.f77, _, _, _, _, Tryd.func77, tie201⟩
  · cases h; exact ⟨Tryd.f85, _, _, _, _, Tryd.func85, tie204⟩
  · cases h; exact ⟨Tryd.f22, _, _, _, _, Tryd.func22, tie228⟩
  · cases h; exact ⟨Tryd.f29, _, _, _, _, Tryd.func29, tie239⟩
  · cases h; exact ⟨Tryd.f30, _, _, _, _, Tryd.func30, tie240⟩
  · cases h; exact ⟨Tryd.f31, _, _, _, _, Tryd.func31, tie241⟩
  · cases h; exact ⟨Tryd.f32, _, _, _, _, Tryd.func32, tie242⟩
  · cases h; exact ⟨Tryd.f43, _, _, _, _, Tryd.func43, tie249⟩
  · cases h; exact ⟨Tryd.f44, _, _, _, _, Tryd.func44, tie250⟩
  · cases h; exact ⟨Tryd.f45, _, _, _, _, Tryd.func45, tie251⟩
  · cases h; exact ⟨Tryd.f46, _, _, _, _, Tryd.func46, tie252⟩
  · cases h; exact ⟨Tryd.f47, _, _, _, _, Tryd.func47, tie253⟩
  · cases h; exact ⟨Tryd.f48, _, _, _, _, Tryd.func48, tie254⟩
  · cases h; exact ⟨Tryd.f49, _, _, _, _, Tryd.func49, tie255⟩
  · cases h; exact ⟨Tryd.f50, _, _, _, _, Tryd.func50, tie256⟩
  · cases h; exact ⟨Tryd.f68, _, _, _, _, Tryd.func68, tie264⟩
  · cases h; exact ⟨Tryd.f69, _, _, _, _, Tryd.func69, tie265⟩
  · cases h; exact ⟨Tryd.f70, _, _, _, _, Tryd.func70, tie266⟩
  · cases h; exact ⟨Tryd.f71, _, _, _, _, Tryd.func71, tie267⟩
  · cases h; exact ⟨Tryd.f72, _, _, _, _, Tryd.func72, tie268⟩
  · cases h; exact ⟨Tryd.f73, _, _, _, _, Tryd.func73, tie269⟩
  · cases h; exact ⟨Tryd.f74, _, _, _, _, Tryd.func74, tie270⟩
  · cases h; exact ⟨Tryd.f75, _, _, _, _, Tryd.func75, tie271⟩
  · cases h; exact ⟨Tryd.f78, _, _, _, _, Tryd.func78, tie275⟩
  · cases h; exact ⟨Tryd.f79, _, _, _, _, Tryd.func79, tie276⟩
  · cases h; exact ⟨Tryd.f80, _, _, _, _, Tryd.func80, tie277⟩
  · cases h; exact ⟨Tryd.f81, _, _, _, _, Tryd.func81, tie278⟩
  · cases h; exact ⟨Tryd.f82, _, _, _, _, Tryd.func82, tie279⟩
  · cases h; exact ⟨Tryd.f83, _, _, _, _, Tryd.func83, tie280⟩
  · cases h; exact ⟨Tryd.f84, _, _, _, _, Tryd.func84, tie281⟩
  · cases h; exact ⟨Tryd.f87, _, _, _, _, Tryd.func87, tie284⟩
  · cases h; exact ⟨Tryd.f88, _, _, _, _, Tryd.func88, tie285⟩
  · cases h; exact ⟨Tryd.f89, _, _, _, _, Tryd.func89, tie286⟩
  · cases h; exact ⟨Tryd.f90, _, _, _, _, Tryd.func90, tie287⟩
  · cases h; exact ⟨Tryd.f91, _, _, _, _, Tryd.func91, tie289⟩
  · cases h; exact ⟨Tryd.f92, _, _, _, _, Tryd.func92, tie290⟩
  · cases h; exact ⟨Tryd.f93, _, _, _, _, Tryd.func93, tie292⟩
  · cases h; exact ⟨Tryd.f94, _, _, _, _, Tryd.func94, tie297⟩
  · cases h; exact ⟨Tryd.f95, _, _, _, _, Tryd.func95, tie303⟩
  · cases h; exact ⟨Tryd.f96, _, _, _, _, Tryd.func96, tie304⟩
  · cases h; exact ⟨Tryd.f97, _, _, _, _, Tryd.func97, tie307⟩
  · cases h; exact ⟨Tryd.f98, _, _, _, _, Tryd.func98, tie308⟩
  · cases h; exact ⟨Tryd.f99, _, _, _, _, Tryd.func99, tie309⟩
  · cases h; exact ⟨Tryd.f3, _, _, _, _, Tryd.func3, tie316⟩
  · cases h; exact ⟨Tryd.f4, _, _, _, _, Tryd.func4, tie317⟩
  · cases h; exact ⟨Tryd.f6, _, _, _, _, Tryd.func6, tie318⟩
  · cases h; exact ⟨Tryd.f7, _, _, _, _, Tryd.func7, tie319⟩
  · cases h; exact ⟨Tryd.f8, _, _, _, _, Tryd.func8, tie320⟩
  · cases h; exact ⟨Tryd.f9, _, _, _, _, Tryd.func9, tie321⟩
  · cases h; exact ⟨Tryd.f10, _, _, _, _, Tryd.func10, tie322⟩
  · cases h; exact ⟨Tryd.f11, _, _, _, _, Tryd.func11, tie323⟩
  · cases h; exact ⟨Tryd.f13, _, _, _, _, Tryd.func13, tie324⟩
  · cases h; exact ⟨Tryd.f14, _, _, _, _, Tryd.func14, tie325⟩
  · cases h; exact ⟨Tryd.f15, _, _, _, _, Tryd.func15, tie326⟩
  · cases h; exact ⟨Tryd.f16, _, _, _, _, Tryd.func16, tie327⟩
  · cases h; exact ⟨Tryd.f17, _, _, _, _, Tryd.func17, tie328⟩
  · cases h; exact ⟨Tryd.f19, _, _, _, _, Tryd.func19, tie329⟩
  · cases h; exact ⟨Tryd.f20, _, _, _, _, Tryd.func20, tie330⟩
  · cases h; exact ⟨Tryd.f21, _, _, _, _, Tryd.func21, tie331⟩
  · cases h
theorem glb {w : World} (h : laidMet Tryd.prog [("arenanet/compile.effects", Rows.laid_arenanet_compile_effects)] w) : GlbAt fid w := fun g cs hg => by
  simp only [fid, ids, idsG] at hg
  split at hg
  · cases hg
    exact ⟨(effRows15.flatten.map (Value.int .i64)), glb_of_laids (P := Tryd.prog) (n := "arenanet/compile.effects") (d := Rows.laid_arenanet_compile_effects) (L := [("arenanet/compile.effects", Rows.laid_arenanet_compile_effects)]) (g := 0) (t := 107) (vs := (effRows15.flatten.map (Value.int .i64))) (m := 4) (by simp) (by kernel_rfl) (by kernel_rfl) (by kernel_rfl) (by kernel_rfl) h⟩
  · cases hg
end Go.Proofs.YtpakkndfjpimgaaDoor.T
end ST17
