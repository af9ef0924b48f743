/- The given program, held against the abstract one: function by function, by the kernel. -/
import Derived.Test.YtpakkndfjpimgaaGreatDoorRows
import Derived.Test.YtpakkndfjpimgaaGreatDoorPmR
import Derived.Test.YtpakkndfjpimgaaGreatDoorPmMd
import Derived.KernelRfl
set_option linter.unusedSimpArgs false
set_option linter.unusedVariables false
section
namespace Go.Proofs.YtpakkndfjpimgaaGreatDoor.T
open Go.Pm Go.Pm.F
def idsF : FuncId → Option Nat := fun f => match f with
  | 7 => some 336
  | 11 => some 317
  | 16 => some 318
  | 17 => some 58
  | 18 => some 320
  | 19 => some 343
  | 21 => some 17
  | 22 => some 323
  | 24 => some 346
  | 25 => some 321
  | 27 => some 20
  | 28 => some 227
  | 29 => some 228
  | 30 => some 12
  | 31 => some 348
  | 32 => some 131
  | 33 => some 125
  | 34 => some 109
  | 35 => some 349
  | 38 => some 177
  | 39 => some 234
  | 40 => some 179
  | 54 => some 322
  | 56 => some 353
  | 57 => some 70
  | 58 => some 329
  | 59 => some 330
  | 60 => some 331
  | 61 => some 236
  | 62 => some 123
  | 63 => some 239
  | 64 => some 240
  | 65 => some 241
  | 66 => some 242
  | 67 => some 26
  | 68 => some 30
  | 69 => some 15
  | 70 => some 147
  | 71 => some 148
  | 72 => some 139
  | 73 => some 140
  | 74 => some 138
  | 75 => some 110
  | 76 => some 111
  | 79 => some 136
  | 80 => some 176
  | 81 => some 178
  | 82 => some 246
  | 99 => some 324
  | 100 => some 325
  | 101 => some 326
  | 102 => some 327
  | 103 => some 328
  | 107 => some 79
  | 108 => some 80
  | 109 => some 247
  | 110 => some 152
  | 111 => some 248
  | 112 => some 23
  | 113 => some 137
  | 114 => some 249
  | 115 => some 250
  | 116 => some 251
  | 117 => some 252
  | 118 => some 253
  | 119 => some 254
  | 120 => some 255
  | 121 => some 256
  | 122 => some 35
  | 123 => some 27
  | 124 => some 37
  | 125 => some 32
  | 126 => some 165
  | 127 => some 134
  | 128 => some 166
  | 129 => some 167
  | 130 => some 168
  | 131 => some 169
  | 132 => some 164
  | 133 => some 163
  | 134 => some 112
  | 137 => some 261
  | 159 => some 262
  | 160 => some 263
  | 161 => some 162
  | 162 => some 264
  | 163 => some 265
  | 164 => some 266
  | 165 => some 267
  | 166 => some 268
  | 167 => some 269
  | 168 => some 270
  | 169 => some 271
  | 170 => some 38
  | 171 => some 39
  | 172 => some 180
  | 173 => some 181
  | 174 => some 182
  | 175 => some 183
  | 176 => some 184
  | 177 => some 185
  | 178 => some 186
  | 179 => some 187
  | 180 => some 188
  | 181 => some 189
  | 182 => some 190
  | 183 => some 191
  | 184 => some 113
  | 210 => some 192
  | 211 => some 193
  | 231 => some 275
  | 232 => some 276
  | 233 => some 277
  | 234 => some 278
  | 235 => some 279
  | 236 => some 280
  | 237 => some 281
  | 238 => some 200
  | 239 => some 201
  | 251 => some 284
  | 252 => some 285
  | 253 => some 286
  | 254 => some 287
  | 255 => some 204
  | 259 => some 289
  | 260 => some 290
  | 262 => some 292
  | 267 => some 297
  | 273 => some 303
  | 274 => some 304
  | 277 => some 307
  | 278 => some 308
  | 279 => some 309
  | _ => none
def idsT : TypeId → Option Nat := fun t => match t with
  | 93 => some 0
  | 24 => some 1
  | 9 => some 2
  | 5 => some 3
  | 202 => some 4
  | _ => none
def idsG : Nat → Option (List D) := fun g => match g with
  | 1 => some G_arenanet_compile_effects
  | _ => none
def ids : Ids := ⟨idsF, idsT, idsG, false, false⟩
def fidF : Nat → FuncId := fun k => match k with
  | 336 => 7
  | 317 => 11
  | 318 => 16
  | 58 => 17
  | 320 => 18
  | 343 => 19
  | 17 => 21
  | 323 => 22
  | 346 => 24
  | 321 => 25
  | 20 => 27
  | 227 => 28
  | 228 => 29
  | 12 => 30
  | 348 => 31
  | 131 => 32
  | 125 => 33
  | 109 => 34
  | 349 => 35
  | 177 => 38
  | 234 => 39
  | 179 => 40
  | 322 => 54
  | 353 => 56
  | 70 => 57
  | 329 => 58
  | 330 => 59
  | 331 => 60
  | 236 => 61
  | 123 => 62
  | 239 => 63
  | 240 => 64
  | 241 => 65
  | 242 => 66
  | 26 => 67
  | 30 => 68
  | 15 => 69
  | 147 => 70
  | 148 => 71
  | 139 => 72
  | 140 => 73
  | 138 => 74
  | 110 => 75
  | 111 => 76
  | 136 => 79
  | 176 => 80
  | 178 => 81
  | 246 => 82
  | 324 => 99
  | 325 => 100
  | 326 => 101
  | 327 => 102
  | 328 => 103
  | 79 => 107
  | 80 => 108
  | 247 => 109
  | 152 => 110
  | 248 => 111
  | 23 => 112
  | 137 => 113
  | 249 => 114
  | 250 => 115
  | 251 => 116
  | 252 => 117
  | 253 => 118
  | 254 => 119
  | 255 => 120
  | 256 => 121
  | 35 => 122
  | 27 => 123
  | 37 => 124
  | 32 => 125
  | 165 => 126
  | 134 => 127
  | 166 => 128
  | 167 => 129
  | 168 => 130
  | 169 => 131
  | 164 => 132
  | 163 => 133
  | 112 => 134
  | 261 => 137
  | 262 => 159
  | 263 => 160
  | 162 => 161
  | 264 => 162
  | 265 => 163
  | 266 => 164
  | 267 => 165
  | 268 => 166
  | 269 => 167
  | 270 => 168
  | 271 => 169
  | 38 => 170
  | 39 => 171
  | 180 => 172
  | 181 => 173
  | 182 => 174
  | 183 => 175
  | 184 => 176
  | 185 => 177
  | 186 => 178
  | 187 => 179
  | 188 => 180
  | 189 => 181
  | 190 => 182
  | 191 => 183
  | 113 => 184
  | 192 => 210
  | 193 => 211
  | 275 => 231
  | 276 => 232
  | 277 => 233
  | 278 => 234
  | 279 => 235
  | 280 => 236
  | 281 => 237
  | 200 => 238
  | 201 => 239
  | 284 => 251
  | 285 => 252
  | 286 => 253
  | 287 => 254
  | 204 => 255
  | 289 => 259
  | 290 => 260
  | 292 => 262
  | 297 => 267
  | 303 => 273
  | 304 => 274
  | 307 => 277
  | 308 => 278
  | 309 => 279
  | _ => 0
def fidT : Nat → TypeId := fun k => match k with
  | 0 => 93
  | 1 => 24
  | 2 => 9
  | 3 => 5
  | 4 => 202
  | _ => 0

theorem tie336 : compF Tryz.prog ids (fun i => ([[0],[3],[3,4,5],[4,5,6,8],[4,5,6,8,27],[2],[4,5,6,8,9,10],[4,5,6,8,9,10,12],[4,12,82],[2],[2]] : List (List Nat)).getD i []) false false false false Tryz.f7 = some F336 := by kernel_rfl
theorem tie317 : compF Tryz.prog ids (fun i => ([[0],[4,5],[4,5,12],[2,3],[2,3]] : List (List Nat)).getD i []) false false false false Tryz.f11 = some F317 := by kernel_rfl
theorem tie318 : compF Tryz.prog ids (fun i => ([[0,1,2],[0,1,2,14],[6],[0,1,2,29],[6],[0,1,7,8],[0,1,7,8,36],[6],[],[6]] : List (List Nat)).getD i []) false false false false Tryz.f16 = some F318 := by kernel_rfl
theorem tie58 : compF Tryz.prog ids (fun i => ([[0,1],[0,1,10],[4],[0,1,5],[0,1,5,14],[0,1,5],[0,1,5,25],[4],[4]] : List (List Nat)).getD i []) false false false false Tryz.f17 = some F58 := by kernel_rfl
theorem tie320 : compF Tryz.prog ids (fun i => ([[0],[0,3],[3,15,16,17],[3,15,16,17,18],[3,4,5,15,16,17],[3,15,16,17],[3,15,16,17],[2]] : List (List Nat)).getD i []) false false false false Tryz.f18 = some F320 := by kernel_rfl
theorem tie343 : compF Tryz.prog ids (fun i => ([[0],[0,3],[3,16,17,18],[3,16,17,18,19],[3,5,16,17,18],[3,16,17,18],[3,16,17,18],[2]] : List (List Nat)).getD i []) false true false false Tryz.f19 = some F343 := by kernel_rfl
theorem tie17 : compF Tryz.prog ids (fun i => ([[0,1],[0,1,6],[0,1],[4]] : List (List Nat)).getD i []) false false false false Tryz.f21 = some F17 := by kernel_rfl
theorem tie323 : compF Tryz.prog ids (fun i => ([[2,3,5],[2,5,6],[2,5,7],[5,7,8],[4,5]] : List (List Nat)).getD i []) false false false false Tryz.f22 = some F323 := by kernel_rfl
theorem tie346 : compF Tryz.prog ids (fun i => ([[2,3],[2,3,19],[4],[2,3,5],[2,3,5,24],[2,3,5],[2,3,5,37],[4],[4]] : List (List Nat)).getD i []) false false false false Tryz.f24 = some F346 := by kernel_rfl
theorem tie321 : compF Tryz.prog ids (fun i => ([[],[1,2],[1,17],[0],[1,3],[1,3,4,5],[1,3,4,5,6,7],[0]] : List (List Nat)).getD i []) false false false false Tryz.f25 = some F321 := by kernel_rfl
theorem tie20 : compF Tryz.prog ids (fun i => ([[0],[0,8],[2],[0,3],[0,3,4],[0,3,4,5],[0,3,4,5,11],[0,3,4,5],[0,3,4,5,6],[0,3,4,5,6,17],[0,3,4,5,6],[0,3,4,5],[4,28],[2],[2]] : List (List Nat)).getD i []) false false false false Tryz.f27 = some F20 := by kernel_rfl
theorem tie227 : compF Tryz.prog ids (fun i => ([[0],[2]] : List (List Nat)).getD i []) false false false false Tryz.f28 = some F227 := by kernel_rfl
theorem tie228 : compF Tryz.prog ids (fun i => ([[0,2,3,4],[0,2,3,4,9],[2,3,4],[2,3,4,5],[2,3,4,5],[2,3,4,5,19],[5,6],[],[2,3,4]] : List (List Nat)).getD i []) false false true false Tryz.f29 = some F228 := by kernel_rfl
theorem tie12 : compF Tryz.prog ids (fun i => ([[1],[1,3],[1,3,8,9],[1,3,8,9,10],[1,3,5,8,9],[1,3,8,9,20],[2],[1,3,8,9],[25],[2],[2]] : List (List Nat)).getD i []) false false false false Tryz.f30 = some F12 := by kernel_rfl
theorem tie348 : compF Tryz.prog ids (fun i => ([[1],[4],[2]] : List (List Nat)).getD i []) false false false false Tryz.f31 = some F348 := by kernel_rfl
theorem tie131 : compF Tryz.prog ids (fun i => ([[1,2],[1,2,4],[1,2,4,17,18,19],[1,2,4,17,18,19,20],[1,2,4,5,6,17,18,19],[1,2,4,17,18,19],[1,2,4,17,18,19],[2,4,33,34],[2,4,33,34,35],[2,4,7,8,33,34],[2,4,7,8,33,34],[2,4,7,8,33,34,45],[2,4,8,33,34],[2,4,33,34],[2,4,33,34],[2,4,33,34],[2,4,73],[2,3],[2,9],[2,9,86,87],[2,9,86,87,88],[2,9,11,86,87],[2,9,86,87,98],[2,3],[2,9,86,87],[2,3]] : List (List Nat)).getD i []) false false false false Tryz.f32 = some F131 := by kernel_rfl
theorem tie125 : compF Tryz.prog ids (fun i => ([[1],[1,14],[2],[1,16,17,18],[1,16,17,18,19],[1,4,16,17,18],[1,16,17,18,27],[2],[1,16,17,18],[1,30,31],[1,30,31,32],[1,6,30,31],[1,30,31,42],[2],[1,30,31],[1,7],[1,7,45,46],[1,7,45,46,47],[1,7,9,45,46],[1,7,9,45,46,50],[1,7,10,45,46],[1,7,10,45,46,55],[2],[1,7,45,46,58],[1,7,45,46],[1,7,45,46],[2]] : List (List Nat)).getD i []) false false false false Tryz.f33 = some F125 := by kernel_rfl
theorem tie109 : compF Tryz.prog ids (fun i => ([[0,1],[1,5],[5,12,13,14],[5,12,13,14,15],[5,7,12,13,14],[5,12,13,14],[5,12,13,14],[4]] : List (List Nat)).getD i []) false false false false Tryz.f34 = some F109 := by kernel_rfl
theorem tie349 : compF Tryz.prog ids (fun i => ([[1],[1,3],[1,3,4],[1,3,4,19],[1,3,4],[1,3,4],[2]] : List (List Nat)).getD i []) false false false false Tryz.f35 = some F349 := by kernel_rfl
theorem tie177 : compF Tryz.prog ids (fun i => ([[0,1,4],[0,1,4,5],[0,1,4,5,12],[0,1,4,5],[0,1,4,15],[0,1,4,15,16],[0,1,4,15,16],[4],[0,1,4,15,25],[0,1,4,15,25],[4],[0,1,4,15,34],[0,1,4,15,34],[4],[0,1,4,15,43],[0,1,4,15,43],[0,1,4,6],[4],[0,1,4,57],[4],[0,1,4,7],[0,1,4,7,8],[4]] : List (List Nat)).getD i []) false false false false Tryz.f38 = some F177 := by kernel_rfl
theorem tie234 : compF Tryz.prog ids (fun i => ([[1],[2]] : List (List Nat)).getD i []) false false false false Tryz.f39 = some F234 := by kernel_rfl
theorem tie179 : compF Tryz.prog ids (fun i => ([[0,1,4],[0,1,4,5],[0,1,4,5,13],[0,1,4,5],[0,1,4,16],[0,1,4,16,17],[4],[0,1,4,16,22],[0,1,4,16,22],[0,1,4,16,22],[0,1,4,16,22],[0,1,4,6],[0,1,4,6,7],[4],[0,1,4,43],[4],[0,1,4,8],[0,1,4,8,9],[4]] : List (List Nat)).getD i []) false false false false Tryz.f40 = some F179 := by kernel_rfl
theorem tie322 : compF Tryz.prog ids (fun i => ([[0,2],[2,4,5],[2,5,6],[2,3]] : List (List Nat)).getD i []) false false false false Tryz.f54 = some F322 := by kernel_rfl
theorem tie353 : compF Tryz.prog ids (fun i => ([[1],[1,3],[1,3],[3,17,18,19],[3,17,18,19,20],[3,5,17,18,19],[3,17,18,19],[3,17,18,19],[2]] : List (List Nat)).getD i []) false true false false Tryz.f56 = some F353 := by kernel_rfl
theorem tie70 : compF Tryz.prog ids (fun i => ([[0,1],[0,1,5],[0,1,5,6],[0,1,5,6,7],[0,1,5,6,7,15],[0,1,5,6,7],[0,1,5,6,7],[1,5],[1,5],[1,5,8],[1,5,8,37],[1,5,8],[1,5,8],[4]] : List (List Nat)).getD i []) false false false false Tryz.f57 = some F70 := by kernel_rfl
theorem tie329 : compF Tryz.prog ids (fun i => ([[0,1],[1,5,6],[1,5,6,11],[1,5,6,7],[1,5,6,7,21],[1,5,6],[1,5,6],[4]] : List (List Nat)).getD i []) false false false false Tryz.f58 = some F329 := by kernel_rfl
theorem tie330 : compF Tryz.prog ids (fun i => ([[0,1,2],[4]] : List (List Nat)).getD i []) false false false false Tryz.f59 = some F330 := by kernel_rfl
theorem tie331 : compF Tryz.prog ids (fun i => ([[0],[0,4],[2],[2]] : List (List Nat)).getD i []) false false false false Tryz.f60 = some F331 := by kernel_rfl
theorem tie236 : compF Tryz.prog ids (fun i => ([[1],[1,3],[1,3,4],[1,3,4,6],[1,3,4],[1,3,4,14],[1,3,4],[2]] : List (List Nat)).getD i []) false false false false Tryz.f61 = some F236 := by kernel_rfl
theorem tie123 : compF Tryz.prog ids (fun i => ([[0,2],[2,3],[2,3,4],[2,3,4,5],[2,3,4,5,11],[2,3,4,5],[2,3,4,5,16],[2,3,4,5],[2]] : List (List Nat)).getD i []) false false false false Tryz.f62 = some F123 := by kernel_rfl
theorem tie239 : compF Tryz.prog ids (fun i => ([[0,2],[2]] : List (List Nat)).getD i []) false false false false Tryz.f63 = some F239 := by kernel_rfl
theorem tie240 : compF Tryz.prog ids (fun i => ([[0,1,2,3,5],[]] : List (List Nat)).getD i []) false false false true Tryz.f64 = some F240 := by kernel_rfl
theorem tie241 : compF Tryz.prog ids (fun i => ([[1],[2]] : List (List Nat)).getD i []) false false false false Tryz.f65 = some F241 := by kernel_rfl
theorem tie242 : compF Tryz.prog ids (fun i => ([[0,2],[0,2,3],[0,2,3,8],[0,2,3],[0,2,3,4],[0,2,3,4,18],[0,2,3,4],[0,2,3,4],[0,2,3],[2]] : List (List Nat)).getD i []) false false false false Tryz.f66 = some F242 := by kernel_rfl
theorem tie26 : compF Tryz.prog ids (fun i => ([[0],[0,1,2,3],[0]] : List (List Nat)).getD i []) false false false false Tryz.f67 = some F26 := by kernel_rfl
theorem tie30 : compF Tryz.prog ids (fun i => ([[2,3],[2,3,5,6],[2,3,5,6,13],[2,3,5,6,13,14],[2,3,5,6,13,16],[2,3,5,6,13,18],[2,3,5,13,20],[2,3,5,13,20],[2,3,13,23],[2,3,25],[4],[2,5,6,38],[4],[4],[2,3,52],[4],[4],[4],[4],[4]] : List (List Nat)).getD i []) false false false false Tryz.f68 = some F30 := by kernel_rfl
theorem tie15 : compF Tryz.prog ids (fun i => ([[1],[1,3],[1,3,4],[3,4,12,13],[3,4,12,13,14],[3,4,6,12,13],[3,4,12,13,17],[3,4,7],[3,4,7,26],[3,4,7,9],[3,4,7,35],[3,7],[],[3,4,12,13],[2]] : List (List Nat)).getD i []) false false false false Tryz.f69 = some F15 := by kernel_rfl
theorem tie147 : compF Tryz.prog ids (fun i => ([[0,3],[0,3,5],[],[0,3,5,9],[0,3,5,9],[],[0,3,5,16],[],[0,3,5,27],[0,3],[],[0,3,5,37],[],[0,3,5,42],[],[0,3,47],[]] : List (List Nat)).getD i []) false false false false Tryz.f70 = some F147 := by kernel_rfl
theorem tie148 : compF Tryz.prog ids (fun i => ([[0,1,2],[0],[6]] : List (List Nat)).getD i []) false true false false Tryz.f71 = some F148 := by kernel_rfl
theorem tie139 : compF Tryz.prog ids (fun i => ([[1,2,4],[1,2,4,5],[1,2,4,5,6],[1,2,4,5,6],[2,4,5,6,7],[2,4,5,6,7,24],[2,4,5,6,7,8],[2,4,5,6,7,8],[2,4,5,6,7,8,9],[2,4,5,6,7,8,9,10],[2,4,5,6,7,8,9,10,52],[2,4,5,6,7,8,9,10],[2,4,5,6,7,8,10],[2,4,5,6,7,8,10],[2,4,5,6,7,10,68,69,70],[2,4,5,6,7,10,68,69,70,71],[2,4,5,6,7,10,12,68,69,70],[2,4,5,6,7,10,12,68,69,70,74],[2,4,5,6,7,10,68,69,70],[2,4,5,6,7,10,12,68,69,70,81],[2,4,5,6,7,10,12,68,69,70],[2,4,5,6,7,10,68,69,70],[2,4,5,6,7,10,68,69,70,97],[2,4,5,6,7,10,68,69,70],[2,4,5,6,7,10,68,69,70],[4]] : List (List Nat)).getD i []) false true false false Tryz.f72 = some F139 := by kernel_rfl
theorem tie140 : compF Tryz.prog ids (fun i => ([[1],[2]] : List (List Nat)).getD i []) false false false false Tryz.f73 = some F140 := by kernel_rfl
theorem tie138 : compF Tryz.prog ids (fun i => ([[1,2],[1,2,10],[4],[1,2,5,6],[1,2,5,6,12],[1,2,5,6,12,13],[2,5,6],[1,2,5,6,12,15],[1,2,5,6,12,15],[2,5,6],[1,2,5,6,12,18],[2,5,6],[1,2,5,6,12,20],[2,5,6],[1,2,5,6,12,22],[1,2,5,6,22],[2,5,6],[4]] : List (List Nat)).getD i []) false false false false Tryz.f74 = some F138 := by kernel_rfl
theorem tie110 : compF Tryz.prog ids (fun i => ([[0,1],[0,1,5],[0,1,5,8],[5,6],[],[4]] : List (List Nat)).getD i []) false false false false Tryz.f75 = some F110 := by kernel_rfl
theorem tie111 : compF Tryz.prog ids (fun i => ([[0,1],[5],[4]] : List (List Nat)).getD i []) false false false false Tryz.f76 = some F111 := by kernel_rfl
theorem tie136 : compF Tryz.prog ids (fun i => ([[0,1],[0,1,15],[4],[0,1,5],[1,5],[4]] : List (List Nat)).getD i []) false false false false Tryz.f79 = some F136 := by kernel_rfl
theorem tie176 : compF Tryz.prog ids (fun i => ([[0,1,5,6],[6]] : List (List Nat)).getD i []) false false false false Tryz.f80 = some F176 := by kernel_rfl
theorem tie178 : compF Tryz.prog ids (fun i => ([[0,1,6,7,8],[8]] : List (List Nat)).getD i []) false false false false Tryz.f81 = some F178 := by kernel_rfl
theorem tie246 : compF Tryz.prog ids (fun i => ([[1,2,3],[1,2,3,7],[1,2,3,7,8],[1,2,3,7,8,16],[1,2,3,7,8],[1,2,3,7,8,22],[1,2,3,7,8],[1,2,3,7,8,25],[1,2,3,7,8],[1,2,3,7,8,28],[1,2,3,7,8],[1,2,3,7,8,41],[1,2,3,7,8],[1,2,3,7,8,55],[1,2,3,7,9],[1,2,3,7,9,58],[1,2,3,7,9],[1,2,7,8],[8,87],[6],[6]] : List (List Nat)).getD i []) false false false false Tryz.f82 = some F246 := by kernel_rfl
theorem tie324 : compF Tryz.prog ids (fun i => ([[0,1,2,6],[0,1,2,6,10],[1,6,8],[6,7],[6,7]] : List (List Nat)).getD i []) false false false false Tryz.f99 = some F324 := by kernel_rfl
theorem tie325 : compF Tryz.prog ids (fun i => ([[0,2],[2,4,6],[2,3]] : List (List Nat)).getD i []) false false false false Tryz.f100 = some F325 := by kernel_rfl
theorem tie326 : compF Tryz.prog ids (fun i => ([[1,2,3,6],[1,2,3,6,10],[1,6,8],[6,7],[6,7]] : List (List Nat)).getD i []) false false false false Tryz.f101 = some F326 := by kernel_rfl
theorem tie327 : compF Tryz.prog ids (fun i => ([[1,2],[2,3]] : List (List Nat)).getD i []) false false false false Tryz.f102 = some F327 := by kernel_rfl
theorem tie328 : compF Tryz.prog ids (fun i => ([[1,2,3,6],[1,2,3,6,10],[1,6,8],[6,7],[6,7]] : List (List Nat)).getD i []) false false false false Tryz.f103 = some F328 := by kernel_rfl
theorem tie79 : compF Tryz.prog ids (fun i => ([[0],[0,3],[0,3,4],[0,3,4,10],[0,3,4],[0,3,4,5],[0,3,4,5,6],[0,3,4,5,6,21],[0,3,4,5,6],[0,3,4,5,6],[0,3,4],[2]] : List (List Nat)).getD i []) false false false false Tryz.f107 = some F79 := by kernel_rfl
theorem tie80 : compF Tryz.prog ids (fun i => ([[0,1],[5],[4]] : List (List Nat)).getD i []) false false false false Tryz.f108 = some F80 := by kernel_rfl
theorem tie247 : compF Tryz.prog ids (fun i => ([[0],[0,3],[0,3,4],[0,3,4,8],[0,3,4],[0,3,4],[2]] : List (List Nat)).getD i []) false false false false Tryz.f109 = some F247 := by kernel_rfl
theorem tie152 : compF Tryz.prog ids (fun i => ([[],[0]] : List (List Nat)).getD i []) false false false false Tryz.f110 = some F152 := by kernel_rfl
theorem tie248 : compF Tryz.prog ids (fun i => ([[1],[1,3],[1,3,4],[1,3,4,9],[1,3,4],[1,3,4],[2]] : List (List Nat)).getD i []) false false false false Tryz.f111 = some F248 := by kernel_rfl
theorem tie23 : compF Tryz.prog ids (fun i => ([[0,1],[0,1,5],[4]] : List (List Nat)).getD i []) false false false false Tryz.f112 = some F23 := by kernel_rfl
theorem tie137 : compF Tryz.prog ids (fun i => ([[0,1,2,6],[0,1,2,6,7],[0,1,6,7,8],[0,1,6,7,8,15],[0,1,6,7,8],[0,1,6,7,8],[6]] : List (List Nat)).getD i []) false false false false Tryz.f113 = some F137 := by kernel_rfl
theorem tie249 : compF Tryz.prog ids (fun i => ([[0,1,3],[0,1,4],[0,1,4,23],[0,1,3]] : List (List Nat)).getD i []) false false false false Tryz.f114 = some F249 := by kernel_rfl
theorem tie250 : compF Tryz.prog ids (fun i => ([[0,1,4],[0,1,4,13],[4],[0,1,4,5],[0,1,4,5,22],[4],[0,1,4,28],[4],[0,1,4,41],[0,1,4,6],[0,1,4,6,50],[0,1,4,6,50,51],[0,1,4,6,50,51],[0,1,4,6,50,51],[0,1,4,6,50,51],[0,1,4,6,50,51],[0,1,4,6,51],[4],[0,1,4,68],[4],[4]] : List (List Nat)).getD i []) false false false false Tryz.f115 = some F250 := by kernel_rfl
theorem tie251 : compF Tryz.prog ids (fun i => ([[0,1],[0,1,5],[0,1,5,13],[0,1,5],[0,1,5,6],[4],[0,1,5,6,23],[0,1,5],[0,1,5,6,26],[0,1,36],[0,1,5],[4]] : List (List Nat)).getD i []) false false false false Tryz.f116 = some F251 := by kernel_rfl
theorem tie252 : compF Tryz.prog ids (fun i => ([[0,2],[0,2,3],[0,2,3,16],[2,3],[2]] : List (List Nat)).getD i []) false false false false Tryz.f117 = some F252 := by kernel_rfl
theorem tie253 : compF Tryz.prog ids (fun i => ([[0,8],[0],[]] : List (List Nat)).getD i []) false false false false Tryz.f118 = some F253 := by kernel_rfl
theorem tie254 : compF Tryz.prog ids (fun i => ([[0],[0,3],[0,3,7],[0,3,7,8],[2],[0,3,7,10],[2],[0,3,12],[2],[],[2]] : List (List Nat)).getD i []) false false false false Tryz.f119 = some F254 := by kernel_rfl
theorem tie255 : compF Tryz.prog ids (fun i => ([[0,2,4],[2],[]] : List (List Nat)).getD i []) false false false false Tryz.f120 = some F255 := by kernel_rfl
theorem tie256 : compF Tryz.prog ids (fun i => ([[0,1,4],[0,1,4],[0,1,4,5],[0,1,4,5,13],[0,1,4,5],[4,5],[4]] : List (List Nat)).getD i []) false false false false Tryz.f121 = some F256 := by kernel_rfl
theorem tie35 : compF Tryz.prog ids (fun i => ([[1,2,3],[1,2,3,7],[1,2,3],[1,2,3,15],[2,3],[2,3]] : List (List Nat)).getD i []) false false false false Tryz.f122 = some F35 := by kernel_rfl
theorem tie27 : compF Tryz.prog ids (fun i => ([[2,3],[2,3,5,6],[2,3,5,6,16],[2,3,5,6,16,17],[2,3,5,6,16,19],[2,3,5,6,16,19],[2,3,5,6,16,19],[2,3,5,6,16,23],[2,3,5,6,16,25],[2,3,5,6,27],[32],[4],[4],[4],[2,3,5,7],[2,5,7,35],[2,5,7],[7,40],[4],[2,5,6,8,9],[8,66],[4],[4]] : List (List Nat)).getD i []) false false false false Tryz.f123 = some F27 := by kernel_rfl
theorem tie37 : compF Tryz.prog ids (fun i => ([[1,2],[2,7,8,9],[2,7,8,9,10],[2,6,7,8,9],[2,7,8,9,16],[4],[2,7,8,9],[4]] : List (List Nat)).getD i []) false false false false Tryz.f124 = some F37 := by kernel_rfl
theorem tie32 : compF Tryz.prog ids (fun i => ([[1],[2]] : List (List Nat)).getD i []) false false false false Tryz.f125 = some F32 := by kernel_rfl
theorem tie165 : compF Tryz.prog ids (fun i => ([[0,2,4],[0,2,4,10],[]] : List (List Nat)).getD i []) false false false false Tryz.f126 = some F165 := by kernel_rfl
theorem tie134 : compF Tryz.prog ids (fun i => ([[0],[0,3],[4,5],[4,14],[2],[2]] : List (List Nat)).getD i []) false false false false Tryz.f127 = some F134 := by kernel_rfl
theorem tie166 : compF Tryz.prog ids (fun i => ([[0,3],[0,5],[],[0,5,8],[],[0,12],[]] : List (List Nat)).getD i []) false false false false Tryz.f128 = some F166 := by kernel_rfl
theorem tie167 : compF Tryz.prog ids (fun i => ([[0,3],[0,3],[0,9],[],[]] : List (List Nat)).getD i []) false false false false Tryz.f129 = some F167 := by kernel_rfl
theorem tie168 : compF Tryz.prog ids (fun i => ([[2,3],[2,3,5],[2,3],[2,3],[],[2,3,5,17],[],[2,3,5,24],[],[2,3,5,31],[2,3,5,31],[2,3],[2,3],[],[2,3,45],[2,3],[2],[2],[]] : List (List Nat)).getD i []) false false false false Tryz.f130 = some F168 := by kernel_rfl
theorem tie169 : compF Tryz.prog ids (fun i => ([[2,3],[2,3,6],[2,3,6,7],[2,3],[],[2,3,6,21],[2,3],[2,3],[],[2,3,6,34],[],[2,3,6,41],[],[2,3,6,46],[2,3],[2],[],[2,3,6,56],[],[2,3,60],[2,3,64,65],[2,3,64,65,66],[2,3,4,64,65],[2,3,64,65],[2,3,64,65]] : List (List Nat)).getD i []) false false false false Tryz.f131 = some F169 := by kernel_rfl
theorem tie164 : compF Tryz.prog ids (fun i => ([[1,2],[1,5],[1,5,12],[1,5,12,13],[4],[1,5,12,15],[4],[1,5,20],[4],[4]] : List (List Nat)).getD i []) false false false false Tryz.f132 = some F164 := by kernel_rfl
theorem tie163 : compF Tryz.prog ids (fun i => ([[0],[2]] : List (List Nat)).getD i []) false false false false Tryz.f133 = some F163 := by kernel_rfl
theorem tie112 : compF Tryz.prog ids (fun i => ([[1],[2]] : List (List Nat)).getD i []) false false false false Tryz.f134 = some F112 := by kernel_rfl
theorem tie261 : compF Tryz.prog ids (fun i => ([[1],[1,5],[8],[2],[2],[1,11],[2],[1,14],[2],[1,17],[2],[1,25],[2],[33],[2],[2]] : List (List Nat)).getD i []) false false false false Tryz.f137 = some F261 := by kernel_rfl
theorem tie262 : compF Tryz.prog ids (fun i => ([[0,1],[0,1,12],[0,1,5],[0,1,5,6],[0,1,33],[4],[4]] : List (List Nat)).getD i []) false false false false Tryz.f159 = some F262 := by kernel_rfl
theorem tie263 : compF Tryz.prog ids (fun i => ([[1],[1,5],[1,5,6],[2],[1,5,17],[2],[1,5,33],[2],[1,5,47],[2],[1,49],[2],[1,3],[1,3,81],[3],[2]] : List (List Nat)).getD i []) false false false false Tryz.f160 = some F263 := by kernel_rfl
theorem tie162 : compF Tryz.prog ids (fun i => ([[0,1,4],[0,1,4,5],[0,1,4,5,16],[0,1,4,5],[0,1,4,19],[0,1,4,19,20],[0,1,4,19,20],[4],[0,1,4,19,31],[0,1,4,19,31],[0,1,4,19,31],[0,4,6],[0,4,6,7],[4],[0,1,4,19,47],[0,4,8],[4],[0,1,4,19,55],[0,4,59],[4],[4],[0,1,4,64],[0,1,4,9],[4],[0,1,4,10],[0,1,4,10,11],[0,1,4,10,11,12],[0,1,4,10,11,12,83],[4,10,11,12],[4]] : List (List Nat)).getD i []) false false false false Tryz.f161 = some F162 := by kernel_rfl
theorem tie264 : compF Tryz.prog ids (fun i => ([[0],[2]] : List (List Nat)).getD i []) false false false false Tryz.f162 = some F264 := by kernel_rfl
theorem tie265 : compF Tryz.prog ids (fun i => ([[0,1,4],[0,1,4,5],[0,1,4,5,34],[0,1,4,5],[0,4,6],[4,6,7,8],[4,6,7,56],[4,6],[4,6,62],[4,6],[4]] : List (List Nat)).getD i []) false false false false Tryz.f163 = some F265 := by kernel_rfl
theorem tie266 : compF Tryz.prog ids (fun i => ([[0],[2]] : List (List Nat)).getD i []) false false false false Tryz.f164 = some F266 := by kernel_rfl
theorem tie267 : compF Tryz.prog ids (fun i => ([[0,1,4],[0,1,4,5,6],[0,1,4,5,6,24],[0,1,4,5,6],[0,1,4,5,6],[4,6,7],[4,7,50],[4,7],[4]] : List (List Nat)).getD i []) false false false false Tryz.f165 = some F267 := by kernel_rfl
theorem tie268 : compF Tryz.prog ids (fun i => ([[0,1],[4]] : List (List Nat)).getD i []) false false false false Tryz.f166 = some F268 := by kernel_rfl
theorem tie269 : compF Tryz.prog ids (fun i => ([[0,1],[1,5],[4]] : List (List Nat)).getD i []) false false false false Tryz.f167 = some F269 := by kernel_rfl
theorem tie270 : compF Tryz.prog ids (fun i => ([[0,1,13],[0,1],[]] : List (List Nat)).getD i []) false false false false Tryz.f168 = some F270 := by kernel_rfl
theorem tie271 : compF Tryz.prog ids (fun i => ([[0,1,4],[0,1,4,5],[0,1,4,5,11],[0,1,4,5],[0,1,4,5],[4],[0,1,4,5,28],[0,1,4,5,6],[0,1,4,5,6],[4],[0,1,4,5,47],[4],[0,1,4,5,54],[0,1,4],[0,1,4,7],[4],[0,1,4,5,70],[0,1,4],[0,1,4,8],[0,1,4,8],[4],[0,4,5,89],[0,4],[4],[4],[4]] : List (List Nat)).getD i []) false false false false Tryz.f169 = some F271 := by kernel_rfl
theorem tie38 : compF Tryz.prog ids (fun i => ([[]] : List (List Nat)).getD i []) false false false false Tryz.f170 = some F38 := by kernel_rfl
theorem tie39 : compF Tryz.prog ids (fun i => ([[1,2],[1,2,10],[4],[1,12,13,14],[1,12,13,14,15],[1,6,12,13,14],[1,12,13,14,21],[4],[1,12,13,14],[4]] : List (List Nat)).getD i []) false false false false Tryz.f171 = some F39 := by kernel_rfl
theorem tie180 : compF Tryz.prog ids (fun i => ([[0,2,3],[3],[]] : List (List Nat)).getD i []) false false true false Tryz.f172 = some F180 := by kernel_rfl
theorem tie181 : compF Tryz.prog ids (fun i => ([[]] : List (List Nat)).getD i []) false false false false Tryz.f173 = some F181 := by kernel_rfl
theorem tie182 : compF Tryz.prog ids (fun i => ([[]] : List (List Nat)).getD i []) false false false false Tryz.f174 = some F182 := by kernel_rfl
theorem tie183 : compF Tryz.prog ids (fun i => ([[]] : List (List Nat)).getD i []) false false false false Tryz.f175 = some F183 := by kernel_rfl
theorem tie184 : compF Tryz.prog ids (fun i => ([[]] : List (List Nat)).getD i []) false false false false Tryz.f176 = some F184 := by kernel_rfl
theorem tie185 : compF Tryz.prog ids (fun i => ([[]] : List (List Nat)).getD i []) false false false false Tryz.f177 = some F185 := by kernel_rfl
theorem tie186 : compF Tryz.prog ids (fun i => ([[]] : List (List Nat)).getD i []) false false false false Tryz.f178 = some F186 := by kernel_rfl
theorem tie187 : compF Tryz.prog ids (fun i => ([[0],[3],[3,4],[2],[3,6],[2],[3,8],[2],[3,10],[2],[3,12],[3,12],[2],[3,15],[15],[2],[2]] : List (List Nat)).getD i []) false false false false Tryz.f179 = some F187 := by kernel_rfl
theorem tie188 : compF Tryz.prog ids (fun i => ([[]] : List (List Nat)).getD i []) false false false false Tryz.f180 = some F188 := by kernel_rfl
theorem tie189 : compF Tryz.prog ids (fun i => ([[]] : List (List Nat)).getD i []) false false false false Tryz.f181 = some F189 := by kernel_rfl
theorem tie190 : compF Tryz.prog ids (fun i => ([[]] : List (List Nat)).getD i []) false false false false Tryz.f182 = some F190 := by kernel_rfl
theorem tie191 : compF Tryz.prog ids (fun i => ([[0,3],[0,3,4],[0,3,4],[0,3,4],[0,4],[]] : List (List Nat)).getD i []) false false true false Tryz.f183 = some F191 := by kernel_rfl
theorem tie113 : compF Tryz.prog ids (fun i => ([[0,1,3],[0,1,3,9],[0,1,3],[0,1,3,4],[0,1,3,4,5],[0,1,3,4,5,21],[0,1,3,4,5],[0,1,3,4,5],[0,1,3,38]] : List (List Nat)).getD i []) false false false false Tryz.f184 = some F113 := by kernel_rfl
theorem tie192 : compF Tryz.prog ids (fun i => ([[0],[2]] : List (List Nat)).getD i []) false false false false Tryz.f210 = some F192 := by kernel_rfl
theorem tie193 : compF Tryz.prog ids (fun i => ([[0],[2]] : List (List Nat)).getD i []) false false false false Tryz.f211 = some F193 := by kernel_rfl
theorem tie275 : compF Tryz.prog ids (fun i => ([[0,1],[4]] : List (List Nat)).getD i []) false false false false Tryz.f231 = some F275 := by kernel_rfl
theorem tie276 : compF Tryz.prog ids (fun i => ([[0,1],[4]] : List (List Nat)).getD i []) false false false false Tryz.f232 = some F276 := by kernel_rfl
theorem tie277 : compF Tryz.prog ids (fun i => ([[0,2],[0,2,3],[2,3],[2]] : List (List Nat)).getD i []) false false false false Tryz.f233 = some F277 := by kernel_rfl
theorem tie278 : compF Tryz.prog ids (fun i => ([[0,3,4],[3,4],[4]] : List (List Nat)).getD i []) false false false false Tryz.f234 = some F278 := by kernel_rfl
theorem tie279 : compF Tryz.prog ids (fun i => ([[2,3,4],[4]] : List (List Nat)).getD i []) false false false false Tryz.f235 = some F279 := by kernel_rfl
theorem tie280 : compF Tryz.prog ids (fun i => ([[0,1,4],[0,1,4],[0,1,4],[0,4,5],[4,5],[4]] : List (List Nat)).getD i []) false false false false Tryz.f236 = some F280 := by kernel_rfl
theorem tie281 : compF Tryz.prog ids (fun i => ([[0,1,4],[0,1,4],[0,1,4,5],[0,1,4,5,6,7],[0,1,4,5,6,7,20],[0,1,4,5,6,7],[4,5,6,7],[4]] : List (List Nat)).getD i []) false false false false Tryz.f237 = some F281 := by kernel_rfl
theorem tie200 : compF Tryz.prog ids (fun i => ([[0,1],[0,1,5],[0,1],[0],[4]] : List (List Nat)).getD i []) false false true false Tryz.f238 = some F200 := by kernel_rfl
theorem tie201 : compF Tryz.prog ids (fun i => ([[1,2],[2,5],[4]] : List (List Nat)).getD i []) false false false false Tryz.f239 = some F201 := by kernel_rfl
theorem tie284 : compF Tryz.prog ids (fun i => ([[0,1],[0,1,7,8],[0,1,7,8,9],[0,1,5,7,8],[0,1,5,7,8,16],[4],[0,1,7,8],[4]] : List (List Nat)).getD i []) false false false false Tryz.f251 = some F284 := by kernel_rfl
theorem tie285 : compF Tryz.prog ids (fun i => ([[0,1,2,6],[0,1,2,6,7],[0,1,2,6,7,13],[0,1,2,6,7,8],[0,1,2,6,7],[6]] : List (List Nat)).getD i []) false false false false Tryz.f252 = some F285 := by kernel_rfl
theorem tie286 : compF Tryz.prog ids (fun i => ([[0,1,2],[2]] : List (List Nat)).getD i []) false false false false Tryz.f253 = some F286 := by kernel_rfl
theorem tie287 : compF Tryz.prog ids (fun i => ([[2,3,4],[4]] : List (List Nat)).getD i []) false false false false Tryz.f254 = some F287 := by kernel_rfl
theorem tie204 : compF Tryz.prog ids (fun i => ([[]] : List (List Nat)).getD i []) false true false false Tryz.f255 = some F204 := by kernel_rfl
theorem tie289 : compF Tryz.prog ids (fun i => ([[0,1,2],[2]] : List (List Nat)).getD i []) false false false false Tryz.f259 = some F289 := by kernel_rfl
theorem tie290 : compF Tryz.prog ids (fun i => ([[0,1,4],[0,1,4,7],[0,1,4],[4],[4]] : List (List Nat)).getD i []) false false false false Tryz.f260 = some F290 := by kernel_rfl
theorem tie292 : compF Tryz.prog ids (fun i => ([[0,1,4],[0,1,4,5],[0,1,4,5,13],[4],[0,1,4,5,6],[4]] : List (List Nat)).getD i []) false false false false Tryz.f262 = some F292 := by kernel_rfl
theorem tie297 : compF Tryz.prog ids (fun i => ([[2,3,4],[4]] : List (List Nat)).getD i []) false false false false Tryz.f267 = some F297 := by kernel_rfl
theorem tie303 : compF Tryz.prog ids (fun i => ([[0,1,2],[2]] : List (List Nat)).getD i []) false false false false Tryz.f273 = some F303 := by kernel_rfl
theorem tie304 : compF Tryz.prog ids (fun i => ([[2,3,4],[4]] : List (List Nat)).getD i []) false false false false Tryz.f274 = some F304 := by kernel_rfl
theorem tie307 : compF Tryz.prog ids (fun i => ([[0,1,2],[2]] : List (List Nat)).getD i []) false false false false Tryz.f277 = some F307 := by kernel_rfl
theorem tie308 : compF Tryz.prog ids (fun i => ([[0,1,4],[0,1,4,7],[0,1,4],[4],[4]] : List (List Nat)).getD i []) false false false false Tryz.f278 = some F308 := by kernel_rfl
theorem tie309 : compF Tryz.prog ids (fun i => ([[0,1,4],[0,1,4,5],[0,1,4,5,9],[4,5],[4],[0,1,4,5,18],[4,5],[4],[0,1,4,5,27],[4],[0,1,4,5,38],[4],[4],[0,1,4,5,45],[4],[4],[0,1,4,5,52],[4,5],[4],[0,1,4],[0,4,6],[4,6],[4]] : List (List Nat)).getD i []) false false false false Tryz.f279 = some F309 := by kernel_rfl
def fid : Fid := ⟨fidF, fun N c pc => 2 * N ≤ dkey ∧ ∃ K ow d, comp Tryz.prog (ids.with ow d) N K c = some pc, fidT, fun g t nm => ∃ f, methT Tryz.prog t nm = some f ∧ ids.fn f = some g, ids.gl⟩
theorem hid : Ties Tryz.prog ids fid := by
  refine ⟨fun f g h => ?_, fun t u h => ?_, fun _ _ _ => Iff.rfl, fun _ _ h => h⟩
  · simp only [ids, idsF] at h
    split at h <;> first | (cases h; rfl) | cases h
  · simp only [ids, idsT] at h
    first | cases h | (split at h <;> first | (cases h; rfl) | cases h)
theorem hcr : Codes Tryz.prog ids fid := fun _ _ _ => Iff.rfl
theorem mixed : Tryz.prog.follows .mixedOrders = true := by kernel_rfl
theorem tied : Tied Tryz.prog ids fid prog17p := fun f pf h => by
  unfold prog17p at h
  split at h
  · cases h; exact ⟨Tryz.f30, _, _, _, _, Tryz.func30, tie12⟩
  · cases h; exact ⟨Tryz.f69, _, _, _, _, Tryz.func69, tie15⟩
  · cases h; exact ⟨Tryz.f21, _, _, _, _, Tryz.func21, tie17⟩
  · cases h; exact ⟨Tryz.f27, _, _, _, _, Tryz.func27, tie20⟩
  · cases h; exact ⟨Tryz.f112, _, _, _, _, Tryz.func112, tie23⟩
  · cases h; exact ⟨Tryz.f67, _, _, _, _, Tryz.func67, tie26⟩
  · cases h; exact ⟨Tryz.f123, _, _, _, _, Tryz.func123, tie27⟩
  · cases h; exact ⟨Tryz.f68, _, _, _, _, Tryz.func68, tie30⟩
  · cases h; exact ⟨Tryz.f125, _, _, _, _, Tryz.func125, tie32⟩
  · cases h; exact ⟨Tryz.f122, _, _, _, _, Tryz.func122, tie35⟩
  · cases h; exact ⟨Tryz.f124, _, _, _, _, Tryz.func124, tie37⟩
  · cases h; exact ⟨Tryz.f170, _, _, _, _, Tryz.func170, tie38⟩
  · cases h; exact ⟨Tryz.f171, _, _, _, _, Tryz.func171, tie39⟩
  · cases h; exact ⟨Tryz.f17, _, _, _, _, Tryz.func17, tie58⟩
  · cases h; exact ⟨Tryz.f57, _, _, _, _, Tryz.func57, tie70⟩
  · cases h; exact ⟨Tryz.f107, _, _, _, _, Tryz.func107, tie79⟩
  · cases h; exact ⟨Tryz.f108, _, _, _, _, Tryz.func108, tie80⟩
  · cases h; exact ⟨Tryz.f34, _, _, _, _, Tryz.func34, tie109⟩
  · cases h; exact ⟨Tryz.f75, _, _, _, _, Tryz.func75, tie110⟩
  · cases h; exact ⟨Tryz.f76, _, _, _, _, Tryz.func76, tie111⟩
  · cases h; exact ⟨Tryz.f134, _, _, _, _, Tryz.func134, tie112⟩
  · cases h; exact ⟨Tryz.f184, _, _, _, _, Tryz.func184, tie113⟩
  · cases h; exact ⟨Tryz.f62, _, _, _, _, Tryz.func62, tie123⟩
  · cases h; exact ⟨Tryz.f33, _, _, _, _, Tryz.func33, tie125⟩
  · cases h; exact ⟨Tryz.f32, _, _, _, _, Tryz.func32, tie131⟩
  · cases h; exact ⟨Tryz.f127, _, _, _, _, Tryz.func127, tie134⟩
  · cases h; exact ⟨Tryz.f79, _, _, _, _, Tryz.func79, tie136⟩
  · cases h; exact ⟨Tryz.f113, _, _, _, _, Tryz.func113, tie137⟩
  · cases h; exact ⟨Tryz.f74, _, _, _, _, Tryz.func74, tie138⟩
  · cases h; exact ⟨Tryz.f72, _, _, _, _, Tryz.func72, tie139⟩
  · cases h; exact ⟨Tryz.f73, _, _, _, _, Tryz.func73, tie140⟩
  · cases h; exact ⟨Tryz.f70, _, _, _, _, Tryz.func70, tie147⟩
  · cases h; exact ⟨Tryz.f71, _, _, _, _, Tryz.func71, tie148⟩
  · cases h; exact ⟨Tryz.f110, _, _, _, _, Tryz.func110, tie152⟩
  · cases h; exact ⟨Tryz.f161, _, _, _, _, Tryz.func161, tie162⟩
  · cases h; exact ⟨Tryz.f133, _, _, _, _, Tryz.func133, tie163⟩
  · cases h; exact ⟨Tryz.f132, _, _, _, _, Tryz.func132, tie164⟩
  · cases h; exact ⟨Tryz.f126, _, _, _, _, Tryz.func126, tie165⟩
  · cases h; exact ⟨Tryz.f128, _, _, _, _, Tryz.func128, tie166⟩
  · cases h; exact ⟨Tryz.f129, _, _, _, _, Tryz.func129, tie167⟩
  · cases h; exact ⟨Tryz.f130, _, _, _, _, Tryz.func130, tie168⟩
  · cases h; exact ⟨Tryz.f131, _, _, _, _, Tryz.func131, tie169⟩
  · cases h; exact ⟨Tryz.f80, _, _, _, _, Tryz.func80, tie176⟩
  · cases h; exact ⟨Tryz.f38, _, _, _, _, Tryz.func38, tie177⟩
  · cases h; exact ⟨Tryz.f81, _, _, _, _, Tryz.func81, tie178⟩
  · cases h; exact ⟨Tryz.f40, _, _, _, _, Tryz.func40, tie179⟩
  · cases h; exact ⟨Tryz.f172, _, _, _, _, Tryz.func172, tie180⟩
  · cases h; exact ⟨Tryz.f173, _, _, _, _, Tryz.func173, tie181⟩
  · cases h; exact ⟨Tryz.f174, _, _, _, _, Tryz.func174, tie182⟩
  · cases h; exact ⟨Tryz.f175, _, _, _, _, Tryz.func175, tie183⟩
  · cases h; exact ⟨Tryz.f176, _, _, _, _, Tryz.func176, tie184⟩
  · cases h; exact ⟨Tryz.f177, _, _, _, _, Tryz.func177, tie185⟩
  · cases h; exact ⟨Tryz.f178, _, _, _, _, Tryz.func178, tie186⟩
  · cases h; exact ⟨Tryz.f179, _, _, _, _, Tryz.func179, tie187⟩
  · cases h; exact ⟨Tryz.f180, _, _, _, _, Tryz.func180, tie188⟩
  · cases h; exact ⟨Tryz.f181, _, _, _, _, Tryz.func181, tie189⟩
  · cases h; exact ⟨Tryz.f182, _, _, _, _, Tryz.func182, tie190⟩
  · cases h; exact ⟨Tryz.f183, _, _, _, _, Tryz.func183, tie191⟩
  · cases h; exact ⟨Tryz.f210, _, _, _, _, Tryz.func210, tie192⟩
  · cases h; exact ⟨Tryz.f211, _, _, _, _, Tryz.func211, tie193⟩
  · cases h; exact ⟨Tryz.f238, _, _, _, _, Tryz.func238, tie200⟩
  · cases h; exact ⟨Tryz.f239, _, _, _, _, Tryz.func239, tie201⟩
  · cases h; exact ⟨Tryz.f255, _, _, _, _, Tryz.func255, tie204⟩
  · cases h; exact ⟨Tryz.f28, _, _, _, _, Tryz.func28, tie227⟩
  · cases h; exact ⟨Tryz.f29, _, _, _, _, Tryz.func29, tie228⟩
  · cases h; exact ⟨Tryz.f39, _, _, _, _, Tryz.func39, tie234⟩
  · cases h; exact ⟨Tryz.f61, _, _, _, _, Tryz.func61, tie236⟩
  · cases h; exact ⟨Tryz.f63, _, _, _, _, Tryz.func63, tie239⟩
  · cases h; exact ⟨Tryz.f64, _, _, _, _, Tryz.func64, tie240⟩
  · cases h; exact ⟨Tryz.f65, _, _, _, _, Tryz.func65, tie241⟩
  · cases h; exact ⟨Tryz.f66, _, _, _, _, Tryz.func66, tie242⟩
  · cases h; exact ⟨Tryz.f82, _, _, _, _, Tryz.func82, tie246⟩
  · cases h; exact ⟨Tryz.f109, _, _, _, _, Tryz.func109, tie247⟩
  · cases h; exact ⟨Tryz.f111, _, _, _, _, Tryz.func111, tie248⟩
  · cases h; exact ⟨Tryz.f114, _, _, _, _, Tryz.func114, tie249⟩
  · cases h; exact ⟨Tryz.f115, _, _, _, _, Tryz.func115, tie250⟩
  · cases h; exact ⟨Tryz.f116, _, _, _, _, Tryz.func116, tie251⟩
  · cases h; exact ⟨Tryz.f117, _, _, _, _, Tryz.func117, tie252⟩
  · cases h; exact ⟨Tryz.f118, _, _, _, _, Tryz.func118, tie253⟩
  · cases h; exact ⟨Tryz.f119, _, _, _, _, Tryz.func119, tie254⟩
  · cases h; exact ⟨Tryz.f120, _, _, _, _, Tryz.func120, tie255⟩
  · cases h; exact ⟨Tryz.f121, _, _, _, _, Tryz.func121, tie256⟩
  · cases h; exact ⟨Tryz.f137, _, _, _, _, Tryz.func137, tie261⟩
  · cases h; exact ⟨Tryz.f159, _, _, _, _, Tryz.func159, tie262⟩
  · cases h; exact ⟨Tryz.f160, _, _, _, _, Tryz.func160, tie263⟩
  · cases h; exact ⟨Tryz.f162, _, _, _, _, Tryz.func162, tie264⟩
  · cases h; exact ⟨Tryz.f163, _, _, _, _, Tryz.func163, tie265⟩
  · cases h; exact ⟨Tryz.f164, _, _, _, _, Tryz.func164, tie266⟩
  · cases h; exact ⟨Tryz.f165, _, _, _, _, Tryz.func165, tie267⟩
  · cases h; exact ⟨Tryz.f166, _, _, _, _, Tryz.func166, tie268⟩
  · cases h; exact ⟨Tryz.f167, _, _, _, _, Tryz.func167, tie269⟩
  · cases h; exact ⟨Tryz.f168, _, _, _, _, Tryz.func168, tie270⟩
  · cases h; exact ⟨Tryz.f169, _, _, _, _, Tryz.func169, tie271⟩
  · cases h; exact ⟨Tryz.f231, _, _, _, _, Tryz.func231, tie275⟩
  · cases h; exact ⟨Tryz.f232, _, _, _, _, Tryz.func232, tie276⟩
  · cases h; exact ⟨Tryz.f233, _, _, _, _, Tryz.func233, tie277⟩
  · cases h; exact ⟨Tryz.f234, _, _, _, _, Tryz.func234, tie278⟩
  · cases h; exact ⟨Tryz.f235, _, _, _, _, Tryz.func235, tie279⟩
  · cases h; exact ⟨Tryz.f236, _, _, _, _, Tryz.func236, tie280⟩
  · cases h; exact ⟨Tryz.f237, _, _, _, _, Tryz.func237, tie281⟩
  · cases h; exact ⟨Tryz.f251, _, _, _, _, Tryz.func251, tie284⟩
  · cases h; exact ⟨Tryz.f252, _, _, _, _, Tryz.func252, tie285⟩
  · cases h; exact ⟨Tryz.f253, _, _, _, _, Tryz.func253, tie286⟩
  · cases h; exact ⟨Tryz.f254, _, _, _, _, Tryz.func254, tie287⟩
  · cases h; exact ⟨Tryz.f259, _, _, _, _, Tryz.func259, tie289⟩
  · cases h; exact ⟨Tryz.f260, _, _, _, _, Tryz.func260, tie290⟩
  · cases h; exact ⟨Tryz.f262, _, _, _, _, Tryz.func262, tie292⟩
  · cases h; exact ⟨Tryz.f267, _, _, _, _, Tryz.func267, tie297⟩
  · cases h; exact ⟨Tryz.f273, _, _, _, _, Tryz.func273, tie303⟩
  · cases h; exact ⟨Tryz.f274, _, _, _, _, Tryz.func274, tie304⟩
  · cases h; exact ⟨Tryz.f277, _, _, _, _, Tryz.func277, tie307⟩
  · cases h; exact ⟨Tryz.f278, _, _, _, _, Tryz.func278, tie308⟩
  · cases h; exact ⟨Tryz.f279, _, _, _, _, Tryz.func279, tie309⟩
  · cases h; exact ⟨Tryz.f11, _, _, _, _, Tryz.func11, tie317⟩
  · cases h; exact ⟨Tryz.f16, _, _, _, _, Tryz.func16, tie318⟩
  · cases h; exact ⟨Tryz.f18, _, _, _, _, Tryz.func18, tie320⟩
  · cases h; exact ⟨Tryz.f25, _, _, _, _, Tryz.func25, tie321⟩
  · cases h; exact ⟨Tryz.f54, _, _, _, _, Tryz.func54, tie322⟩
  · cases h; exact ⟨Tryz.f22, _, _, _, _, Tryz.func22, tie323⟩
  · cases h; exact ⟨Tryz.f99, _, _, _, _, Tryz.func99, tie324⟩
  · cases h; exact ⟨Tryz.f100, _, _, _, _, Tryz.func100, tie325⟩
  · cases h; exact ⟨Tryz.f101, _, _, _, _, Tryz.func101, tie326⟩
  · cases h; exact ⟨Tryz.f102, _, _, _, _, Tryz.func102, tie327⟩
  · cases h; exact ⟨Tryz.f103, _, _, _, _, Tryz.func103, tie328⟩
  · cases h; exact ⟨Tryz.f58, _, _, _, _, Tryz.func58, tie329⟩
  · cases h; exact ⟨Tryz.f59, _, _, _, _, Tryz.func59, tie330⟩
  · cases h; exact ⟨Tryz.f60, _, _, _, _, Tryz.func60, tie331⟩
  · cases h; exact ⟨Tryz.f7, _, _, _, _, Tryz.func7, tie336⟩
  · cases h; exact ⟨Tryz.f19, _, _, _, _, Tryz.func19, tie343⟩
  · cases h; exact ⟨Tryz.f24, _, _, _, _, Tryz.func24, tie346⟩
  · cases h; exact ⟨Tryz.f31, _, _, _, _, Tryz.func31, tie348⟩
  · cases h; exact ⟨Tryz.f35, _, _, _, _, Tryz.func35, tie349⟩
  · cases h; exact ⟨Tryz.f56, _, _, _, _, Tryz.func56, tie353⟩
  · cases h
theorem glb {w : World} (h : laidMet Tryz.prog [("arenanet/compile.effects", Rows.laid_arenanet_compile_effects)] w) : GlbAt fid w := fun g cs hg => by
  simp only [fid, ids, idsG] at hg
  split at hg
  · cases hg
    exact ⟨(effRows15.flatten.map (Value.int .i64)), glb_of_laids (P := Tryz.prog) (n := "arenanet/compile.effects") (d := Rows.laid_arenanet_compile_effects) (L := [("arenanet/compile.effects", Rows.laid_arenanet_compile_effects)]) (g := 1) (t := 239) (vs := (effRows15.flatten.map (Value.int .i64))) (m := 4) (by simp) (by kernel_rfl) (by kernel_rfl) (by kernel_rfl) (by kernel_rfl) h⟩
  · cases hg
end Go.Proofs.YtpakkndfjpimgaaGreatDoor.T
end
