/- The given program, held against the abstract one: function by function, by the kernel. -/
import Derived.Test.YtoccgneneplciaaGreatDoorRows
import Derived.Test.YtoccgneneplciaaGreatDoorPmR1
import Derived.Test.YtoccgneneplciaaGreatDoorPmMc
import Derived.KernelRfl
set_option linter.unusedSimpArgs false
set_option linter.unusedVariables false
section
namespace Go.Proofs.YtoccgneneplciaaGreatDoor.T
open Go.Pm Go.Pm.F
def idsF : FuncId → Option Nat := fun f => match f with
  | 4 => some 312
  | 10 => some 123
  | 11 => some 131
  | 12 => some 228
  | 13 => some 231
  | 14 => some 133
  | 15 => some 127
  | 17 => some 17
  | 18 => some 132
  | 20 => some 23
  | 21 => some 136
  | 22 => some 137
  | 23 => some 15
  | 24 => some 147
  | 25 => some 148
  | 26 => some 139
  | 27 => some 140
  | 28 => some 239
  | 29 => some 240
  | 30 => some 241
  | 31 => some 242
  | 32 => some 243
  | 33 => some 244
  | 34 => some 245
  | 35 => some 125
  | 36 => some 128
  | 38 => some 152
  | 40 => some 149
  | 41 => some 150
  | 42 => some 151
  | 43 => some 153
  | 44 => some 154
  | 45 => some 155
  | 47 => some 162
  | 48 => some 32
  | 49 => some 165
  | 50 => some 134
  | 51 => some 166
  | 52 => some 167
  | 53 => some 168
  | 54 => some 169
  | 55 => some 164
  | 56 => some 249
  | 57 => some 250
  | 58 => some 251
  | 59 => some 252
  | 60 => some 253
  | 61 => some 254
  | 62 => some 255
  | 63 => some 256
  | 64 => some 257
  | 65 => some 258
  | 66 => some 259
  | 67 => some 260
  | 68 => some 138
  | 71 => some 170
  | 72 => some 171
  | 73 => some 172
  | 74 => some 173
  | 75 => some 176
  | 76 => some 177
  | 77 => some 178
  | 78 => some 179
  | 79 => some 38
  | 80 => some 39
  | 81 => some 180
  | 82 => some 181
  | 83 => some 182
  | 84 => some 183
  | 85 => some 184
  | 86 => some 185
  | 87 => some 186
  | 88 => some 187
  | 89 => some 188
  | 90 => some 189
  | 91 => some 190
  | 92 => some 191
  | 93 => some 264
  | 94 => some 265
  | 95 => some 266
  | 96 => some 267
  | 97 => some 268
  | 98 => some 269
  | 99 => some 270
  | 100 => some 271
  | 101 => some 272
  | 102 => some 273
  | 103 => some 274
  | 104 => some 163
  | 105 => some 192
  | 106 => some 193
  | 108 => some 194
  | 109 => some 195
  | 110 => some 196
  | 111 => some 197
  | 112 => some 198
  | 113 => some 199
  | 114 => some 200
  | 115 => some 201
  | 116 => some 275
  | 117 => some 276
  | 118 => some 277
  | 119 => some 278
  | 120 => some 279
  | 121 => some 280
  | 122 => some 281
  | 124 => some 282
  | 125 => some 283
  | 127 => some 202
  | 128 => some 203
  | 129 => some 204
  | 131 => some 284
  | 132 => some 285
  | 133 => some 286
  | 134 => some 287
  | 135 => some 288
  | 138 => some 289
  | 139 => some 290
  | 140 => some 291
  | 141 => some 292
  | 142 => some 293
  | 143 => some 294
  | 144 => some 295
  | 145 => some 296
  | 146 => some 297
  | 147 => some 298
  | 148 => some 299
  | 149 => some 300
  | 152 => some 303
  | 153 => some 304
  | 156 => some 307
  | 157 => some 308
  | 158 => some 309
  | _ => none
def idsT : TypeId → Option Nat := fun t => match t with
  | 40 => some 1
  | 9 => some 2
  | 5 => some 3
  | 87 => some 4
  | _ => none
def idsG : Nat → Option (List D) := fun g => match g with
  | 0 => some G_arenanet_compile_effects
  | 2 => some G_internal_strconv_uint64pow10
  | _ => none
def ids : Ids := ⟨idsF, idsT, idsG, false, false⟩
def fidF : Nat → FuncId := fun k => match k with
  | 312 => 4
  | 123 => 10
  | 131 => 11
  | 228 => 12
  | 231 => 13
  | 133 => 14
  | 127 => 15
  | 17 => 17
  | 132 => 18
  | 23 => 20
  | 136 => 21
  | 137 => 22
  | 15 => 23
  | 147 => 24
  | 148 => 25
  | 139 => 26
  | 140 => 27
  | 239 => 28
  | 240 => 29
  | 241 => 30
  | 242 => 31
  | 243 => 32
  | 244 => 33
  | 245 => 34
  | 125 => 35
  | 128 => 36
  | 152 => 38
  | 149 => 40
  | 150 => 41
  | 151 => 42
  | 153 => 43
  | 154 => 44
  | 155 => 45
  | 162 => 47
  | 32 => 48
  | 165 => 49
  | 134 => 50
  | 166 => 51
  | 167 => 52
  | 168 => 53
  | 169 => 54
  | 164 => 55
  | 249 => 56
  | 250 => 57
  | 251 => 58
  | 252 => 59
  | 253 => 60
  | 254 => 61
  | 255 => 62
  | 256 => 63
  | 257 => 64
  | 258 => 65
  | 259 => 66
  | 260 => 67
  | 138 => 68
  | 170 => 71
  | 171 => 72
  | 172 => 73
  | 173 => 74
  | 176 => 75
  | 177 => 76
  | 178 => 77
  | 179 => 78
  | 38 => 79
  | 39 => 80
  | 180 => 81
  | 181 => 82
  | 182 => 83
  | 183 => 84
  | 184 => 85
  | 185 => 86
  | 186 => 87
  | 187 => 88
  | 188 => 89
  | 189 => 90
  | 190 => 91
  | 191 => 92
  | 264 => 93
  | 265 => 94
  | 266 => 95
  | 267 => 96
  | 268 => 97
  | 269 => 98
  | 270 => 99
  | 271 => 100
  | 272 => 101
  | 273 => 102
  | 274 => 103
  | 163 => 104
  | 192 => 105
  | 193 => 106
  | 194 => 108
  | 195 => 109
  | 196 => 110
  | 197 => 111
  | 198 => 112
  | 199 => 113
  | 200 => 114
  | 201 => 115
  | 275 => 116
  | 276 => 117
  | 277 => 118
  | 278 => 119
  | 279 => 120
  | 280 => 121
  | 281 => 122
  | 282 => 124
  | 283 => 125
  | 202 => 127
  | 203 => 128
  | 204 => 129
  | 284 => 131
  | 285 => 132
  | 286 => 133
  | 287 => 134
  | 288 => 135
  | 289 => 138
  | 290 => 139
  | 291 => 140
  | 292 => 141
  | 293 => 142
  | 294 => 143
  | 295 => 144
  | 296 => 145
  | 297 => 146
  | 298 => 147
  | 299 => 148
  | 300 => 149
  | 303 => 152
  | 304 => 153
  | 307 => 156
  | 308 => 157
  | 309 => 158
  | _ => 0
def fidT : Nat → TypeId := fun k => match k with
  | 1 => 40
  | 2 => 9
  | 3 => 5
  | 4 => 87
  | _ => 0

theorem tie312 : compF Tryz.prog ids (fun i => ([[0],[3],[3,4,5],[4,5,6,8],[4,5,6,26],[2],[4,5,9,10],[2]] : List (List Nat)).getD i []) false false false false Tryz.f4 = some F312 := by kernel_rfl
theorem tie123 : compF Tryz.prog ids (fun i => ([[0,2],[2,3],[2,3,4],[2,3,4,5],[2,3,4,5,11],[2,3,4,5],[2,3,4,5,16],[2,3,4,5],[2]] : List (List Nat)).getD i []) false false false false Tryz.f10 = some F123 := by kernel_rfl
theorem tie131 : compF Tryz.prog ids (fun i => ([[1,2],[1,2,4],[1,2,4,17,18,19],[1,2,4,17,18,19,20],[1,2,4,5,6,17,18,19],[1,2,4,17,18,19],[1,2,4,17,18,19],[2,4,33,34],[2,4,33,34,35],[2,4,7,8,33,34],[2,4,7,8,33,34],[2,4,7,8,33,34,45],[2,4,8,33,34],[2,4,33,34],[2,4,33,34],[2,4,33,34],[2,4,73],[2,3],[2,9],[2,9,86,87],[2,9,86,87,88],[2,9,11,86,87],[2,9,86,87,98],[2,3],[2,9,86,87],[2,3]] : List (List Nat)).getD i []) false false false false Tryz.f11 = some F131 := by kernel_rfl
theorem tie228 : compF Tryz.prog ids (fun i => ([[0,2,3,4],[0,2,3,4,9],[2,3,4],[2,3,4,5],[2,3,4,5],[2,3,4,5,19],[5,6],[],[2,3,4]] : List (List Nat)).getD i []) false false true false Tryz.f12 = some F228 := by kernel_rfl
theorem tie231 : compF Tryz.prog ids (fun i => ([[1],[1,3],[1,3,8,9],[1,3,8,9,10],[1,3,4,5,8,9],[1,3,4,5,8,9,18],[1,3,4,8,9],[1,3,8,9],[1,3,8,9],[2]] : List (List Nat)).getD i []) false true false false Tryz.f13 = some F231 := by kernel_rfl
theorem tie133 : compF Tryz.prog ids (fun i => ([[2,3],[2,3,19],[4],[2,3,5],[2,3,5,24],[2,3,5],[2,3,5,37],[4],[4]] : List (List Nat)).getD i []) false false false false Tryz.f14 = some F133 := by kernel_rfl
theorem tie127 : compF Tryz.prog ids (fun i => ([[],[1,3],[3,4,5],[3,4,5,6],[0]] : List (List Nat)).getD i []) false false false false Tryz.f15 = some F127 := by kernel_rfl
theorem tie17 : compF Tryz.prog ids (fun i => ([[0,1],[0,1,6],[0,1],[4]] : List (List Nat)).getD i []) false false false false Tryz.f17 = some F17 := by kernel_rfl
theorem tie132 : compF Tryz.prog ids (fun i => ([[0,2],[0,2,11],[2,3,4],[2,5],[2,5,6],[2,5,6,35],[2,5,6],[2,5,6,42],[2,5,6,7],[2,5,6,7,8],[2,5,6,7,8,44],[2,5,6,7,8],[2,5,6,7,8,53],[2,5,6,7,8],[2,5,6,7,56],[2,5,6],[2,5,6,7,64],[2,5,6],[2,5,6,7],[2,5,6],[2,5,6,78],[2,3,4],[2,3,4]] : List (List Nat)).getD i []) false false false false Tryz.f18 = some F132 := by kernel_rfl
theorem tie23 : compF Tryz.prog ids (fun i => ([[0,1],[0,1,5],[4]] : List (List Nat)).getD i []) false false false false Tryz.f20 = some F23 := by kernel_rfl
theorem tie136 : compF Tryz.prog ids (fun i => ([[0,1],[0,1,15],[4],[0,1,5],[1,5],[4]] : List (List Nat)).getD i []) false false false false Tryz.f21 = some F136 := by kernel_rfl
theorem tie137 : compF Tryz.prog ids (fun i => ([[0,1,2,6],[0,1,2,6,7],[0,1,6,7,8],[0,1,6,7,8,15],[0,1,6,7,8],[0,1,6,7,8],[6]] : List (List Nat)).getD i []) false false false false Tryz.f22 = some F137 := by kernel_rfl
theorem tie15 : compF Tryz.prog ids (fun i => ([[1],[1,3],[1,3,4],[3,4,12,13],[3,4,12,13,14],[3,4,6,12,13],[3,4,12,13,17],[3,4,7],[3,4,7,26],[3,4,7,9],[3,4,7,35],[3,7],[],[3,4,12,13],[2]] : List (List Nat)).getD i []) false false false false Tryz.f23 = some F15 := by kernel_rfl
theorem tie147 : compF Tryz.prog ids (fun i => ([[0,3],[0,3,5],[],[0,3,5,9],[0,3,5,9],[],[0,3,5,16],[],[0,3,5,27],[0,3],[],[0,3,5,37],[],[0,3,5,42],[],[0,3,47],[]] : List (List Nat)).getD i []) false false false false Tryz.f24 = some F147 := by kernel_rfl
theorem tie148 : compF Tryz.prog ids (fun i => ([[0,1,2],[0],[6]] : List (List Nat)).getD i []) false true false false Tryz.f25 = some F148 := by kernel_rfl
theorem tie139 : compF Tryz.prog ids (fun i => ([[1,2,4],[1,2,4,5],[1,2,4,5,6],[1,2,4,5,6],[2,4,5,6,7],[2,4,5,6,7,24],[2,4,5,6,7,8],[2,4,5,6,7,8],[2,4,5,6,7,8,9],[2,4,5,6,7,8,9,10],[2,4,5,6,7,8,9,10,52],[2,4,5,6,7,8,9,10],[2,4,5,6,7,8,10],[2,4,5,6,7,8,10],[2,4,5,6,7,10,68,69,70],[2,4,5,6,7,10,68,69,70,71],[2,4,5,6,7,10,12,68,69,70],[2,4,5,6,7,10,12,68,69,70,74],[2,4,5,6,7,10,68,69,70],[2,4,5,6,7,10,12,68,69,70,81],[2,4,5,6,7,10,12,68,69,70],[2,4,5,6,7,10,68,69,70],[2,4,5,6,7,10,68,69,70,97],[2,4,5,6,7,10,68,69,70],[2,4,5,6,7,10,68,69,70],[4]] : List (List Nat)).getD i []) false true false false Tryz.f26 = some F139 := by kernel_rfl
theorem tie140 : compF Tryz.prog ids (fun i => ([[1],[2]] : List (List Nat)).getD i []) false false false false Tryz.f27 = some F140 := by kernel_rfl
theorem tie239 : compF Tryz.prog ids (fun i => ([[0,2],[2]] : List (List Nat)).getD i []) false false false false Tryz.f28 = some F239 := by kernel_rfl
theorem tie240 : compF Tryz.prog ids (fun i => ([[0,1,2,3,5],[]] : List (List Nat)).getD i []) false false false true Tryz.f29 = some F240 := by kernel_rfl
theorem tie241 : compF Tryz.prog ids (fun i => ([[1],[2]] : List (List Nat)).getD i []) false false false false Tryz.f30 = some F241 := by kernel_rfl
theorem tie242 : compF Tryz.prog ids (fun i => ([[0,2],[0,2,3],[0,2,3,8],[0,2,3],[0,2,3,4],[0,2,3,4,18],[0,2,3,4],[0,2,3,4],[0,2,3],[2]] : List (List Nat)).getD i []) false false false false Tryz.f31 = some F242 := by kernel_rfl
theorem tie243 : compF Tryz.prog ids (fun i => ([[0,6,7,8],[0,6,7,8,9],[0,5,6,7,8],[0,5,6,7,8,13],[0,5,6,7,8,23],[0,5,6,7,8],[0,5,6,7,8],[0,6,7,8],[0,6,7,8]] : List (List Nat)).getD i []) false false false false Tryz.f32 = some F243 := by kernel_rfl
theorem tie244 : compF Tryz.prog ids (fun i => ([[0,3],[0,3],[0,10,11,12],[0,10,11,12,13],[0,5,10,11,12],[0,10,11,12],[0,10,11,12],[]] : List (List Nat)).getD i []) false false false false Tryz.f33 = some F244 := by kernel_rfl
theorem tie245 : compF Tryz.prog ids (fun i => ([[0],[2]] : List (List Nat)).getD i []) false true false false Tryz.f34 = some F245 := by kernel_rfl
theorem tie125 : compF Tryz.prog ids (fun i => ([[1],[1,14],[2],[1,16,17,18],[1,16,17,18,19],[1,4,16,17,18],[1,16,17,18,27],[2],[1,16,17,18],[1,30,31],[1,30,31,32],[1,6,30,31],[1,30,31,42],[2],[1,30,31],[1,7],[1,7,45,46],[1,7,45,46,47],[1,7,9,45,46],[1,7,9,45,46,50],[1,7,10,45,46],[1,7,10,45,46,55],[2],[1,7,45,46,58],[1,7,45,46],[1,7,45,46],[2]] : List (List Nat)).getD i []) false false false false Tryz.f35 = some F125 := by kernel_rfl
theorem tie128 : compF Tryz.prog ids (fun i => ([[1,2],[1,2,22],[4],[4]] : List (List Nat)).getD i []) false false false false Tryz.f36 = some F128 := by kernel_rfl
theorem tie152 : compF Tryz.prog ids (fun i => ([[],[0]] : List (List Nat)).getD i []) false false false false Tryz.f38 = some F152 := by kernel_rfl
theorem tie149 : compF Tryz.prog ids (fun i => ([[0],[0,3],[0,3,4],[0,3,4,11],[0,3,4,5],[0,3,4,5],[0,3,4],[2]] : List (List Nat)).getD i []) false false false false Tryz.f40 = some F149 := by kernel_rfl
theorem tie150 : compF Tryz.prog ids (fun i => ([[0,14],[0],[0,21],[]] : List (List Nat)).getD i []) false false false false Tryz.f41 = some F150 := by kernel_rfl
theorem tie151 : compF Tryz.prog ids (fun i => ([[0],[3],[3,16],[2],[2]] : List (List Nat)).getD i []) false false false false Tryz.f42 = some F151 := by kernel_rfl
theorem tie153 : compF Tryz.prog ids (fun i => ([[0,1,8],[0,1],[0],[0,38],[]] : List (List Nat)).getD i []) false false false false Tryz.f43 = some F153 := by kernel_rfl
theorem tie154 : compF Tryz.prog ids (fun i => ([[0,12],[]] : List (List Nat)).getD i []) false false false false Tryz.f44 = some F154 := by kernel_rfl
theorem tie155 : compF Tryz.prog ids (fun i => ([[0,1,4],[0,1,4,5],[0,1,4,5],[0,1,4,5,19],[0,1,4,5],[4,5],[4]] : List (List Nat)).getD i []) false false false false Tryz.f45 = some F155 := by kernel_rfl
theorem tie162 : compF Tryz.prog ids (fun i => ([[0,1,4],[0,1,4,5],[0,1,4,5,16],[0,1,4,5],[0,1,4,19],[0,1,4,19,20],[0,1,4,19,20],[4],[0,1,4,19,31],[0,1,4,19,31],[0,1,4,19,31],[0,4,6],[0,4,6,7],[4],[0,1,4,19,47],[0,4,8],[4],[0,1,4,19,55],[0,4,59],[4],[4],[0,1,4,64],[0,1,4,9],[4],[0,1,4,10],[0,1,4,10,11],[0,1,4,10,11,12],[0,1,4,10,11,12,83],[4,10,11,12],[4]] : List (List Nat)).getD i []) false false false false Tryz.f47 = some F162 := by kernel_rfl
theorem tie32 : compF Tryz.prog ids (fun i => ([[1],[2]] : List (List Nat)).getD i []) false false false false Tryz.f48 = some F32 := by kernel_rfl
theorem tie165 : compF Tryz.prog ids (fun i => ([[0,2,4],[0,2,4,10],[]] : List (List Nat)).getD i []) false false false false Tryz.f49 = some F165 := by kernel_rfl
theorem tie134 : compF Tryz.prog ids (fun i => ([[0],[0,3],[4,5],[4,14],[2],[2]] : List (List Nat)).getD i []) false false false false Tryz.f50 = some F134 := by kernel_rfl
theorem tie166 : compF Tryz.prog ids (fun i => ([[0,3],[0,5],[],[0,5,8],[],[0,12],[]] : List (List Nat)).getD i []) false false false false Tryz.f51 = some F166 := by kernel_rfl
theorem tie167 : compF Tryz.prog ids (fun i => ([[0,3],[0,3],[0,9],[],[]] : List (List Nat)).getD i []) false false false false Tryz.f52 = some F167 := by kernel_rfl
theorem tie168 : compF Tryz.prog ids (fun i => ([[2,3],[2,3,5],[2,3],[2,3],[],[2,3,5,17],[],[2,3,5,24],[],[2,3,5,31],[2,3,5,31],[2,3],[2,3],[],[2,3,45],[2,3],[2],[2],[]] : List (List Nat)).getD i []) false false false false Tryz.f53 = some F168 := by kernel_rfl
theorem tie169 : compF Tryz.prog ids (fun i => ([[2,3],[2,3,6],[2,3,6,7],[2,3],[],[2,3,6,21],[2,3],[2,3],[],[2,3,6,34],[],[2,3,6,41],[],[2,3,6,46],[2,3],[2],[],[2,3,6,56],[],[2,3,60],[2,3,64,65],[2,3,64,65,66],[2,3,4,64,65],[2,3,64,65],[2,3,64,65]] : List (List Nat)).getD i []) false false false false Tryz.f54 = some F169 := by kernel_rfl
theorem tie164 : compF Tryz.prog ids (fun i => ([[1,2],[1,5],[1,5,12],[1,5,12,13],[4],[1,5,12,15],[4],[1,5,20],[4],[4]] : List (List Nat)).getD i []) false false false false Tryz.f55 = some F164 := by kernel_rfl
theorem tie249 : compF Tryz.prog ids (fun i => ([[0,1,3],[0,1,4],[0,1,4,23],[0,1,3]] : List (List Nat)).getD i []) false false false false Tryz.f56 = some F249 := by kernel_rfl
theorem tie250 : compF Tryz.prog ids (fun i => ([[0,1,4],[0,1,4,13],[4],[0,1,4,5],[0,1,4,5,22],[4],[0,1,4,28],[4],[0,1,4,41],[0,1,4,6],[0,1,4,6,50],[0,1,4,6,50,51],[0,1,4,6,50,51],[0,1,4,6,50,51],[0,1,4,6,50,51],[0,1,4,6,50,51],[0,1,4,6,51],[4],[0,1,4,68],[4],[4]] : List (List Nat)).getD i []) false false false false Tryz.f57 = some F250 := by kernel_rfl
theorem tie251 : compF Tryz.prog ids (fun i => ([[0,1],[0,1,5],[0,1,5,13],[0,1,5],[0,1,5,6],[4],[0,1,5,6,23],[0,1,5],[0,1,5,6,26],[0,1,36],[0,1,5],[4]] : List (List Nat)).getD i []) false false false false Tryz.f58 = some F251 := by kernel_rfl
theorem tie252 : compF Tryz.prog ids (fun i => ([[0,2],[0,2,3],[0,2,3,16],[2,3],[2]] : List (List Nat)).getD i []) false false false false Tryz.f59 = some F252 := by kernel_rfl
theorem tie253 : compF Tryz.prog ids (fun i => ([[0,8],[0],[]] : List (List Nat)).getD i []) false false false false Tryz.f60 = some F253 := by kernel_rfl
theorem tie254 : compF Tryz.prog ids (fun i => ([[0],[0,3],[0,3,7],[0,3,7,8],[2],[0,3,7,10],[2],[0,3,12],[2],[],[2]] : List (List Nat)).getD i []) false false false false Tryz.f61 = some F254 := by kernel_rfl
theorem tie255 : compF Tryz.prog ids (fun i => ([[0,2,4],[2],[]] : List (List Nat)).getD i []) false false false false Tryz.f62 = some F255 := by kernel_rfl
theorem tie256 : compF Tryz.prog ids (fun i => ([[0,1,4],[0,1,4],[0,1,4,5],[0,1,4,5,13],[0,1,4,5],[4,5],[4]] : List (List Nat)).getD i []) false false false false Tryz.f63 = some F256 := by kernel_rfl
theorem tie257 : compF Tryz.prog ids (fun i => ([[0],[2]] : List (List Nat)).getD i []) false false false false Tryz.f64 = some F257 := by kernel_rfl
theorem tie258 : compF Tryz.prog ids (fun i => ([[0,1],[0,1],[],[4]] : List (List Nat)).getD i []) false true false false Tryz.f65 = some F258 := by kernel_rfl
theorem tie259 : compF Tryz.prog ids (fun i => ([[0,1],[0,1],[1],[4,5]] : List (List Nat)).getD i []) false true false false Tryz.f66 = some F259 := by kernel_rfl
theorem tie260 : compF Tryz.prog ids (fun i => ([[0,3],[0,3,6],[0,3,6,7],[0,3],[0],[],[0,3,6,21],[0,3],[0,3],[0,3],[0],[],[0,3,6,42],[0,3],[0,3],[0,3],[0,4],[0,4,60],[0,4],[],[0,3,6,67],[0,3],[0,3],[],[0,3,6,80],[0,3],[0,3],[0,3],[0],[],[0,99],[]] : List (List Nat)).getD i []) false false false false Tryz.f67 = some F260 := by kernel_rfl
theorem tie138 : compF Tryz.prog ids (fun i => ([[1,2],[1,2,10],[4],[1,2,5,6],[1,2,5,6,12],[1,2,5,6,12,13],[2,5,6],[1,2,5,6,12,15],[1,2,5,6,12,15],[2,5,6],[1,2,5,6,12,18],[2,5,6],[1,2,5,6,12,20],[2,5,6],[1,2,5,6,12,22],[1,2,5,6,22],[2,5,6],[4]] : List (List Nat)).getD i []) false false false false Tryz.f68 = some F138 := by kernel_rfl
theorem tie170 : compF Tryz.prog ids (fun i => ([[0,1],[0,1,8],[0,1,12],[0,1,22],[0,1],[0,1,40],[0,1],[4]] : List (List Nat)).getD i []) false false false false Tryz.f71 = some F170 := by kernel_rfl
theorem tie171 : compF Tryz.prog ids (fun i => ([[0,1,4],[0,1,4,11],[4],[0,1,4,5],[0,1,4,5,19],[0,1,4,5,35],[0,1,4,5],[1,4,5,6],[4,6,53],[4,6],[4],[0,1,4,5,59],[0,1,4,5,69],[0,1,4,5],[4,7],[4,7,81],[4,7],[4],[0,1,4,5,100],[4],[0,1,4,5,113],[4],[4]] : List (List Nat)).getD i []) false false false false Tryz.f72 = some F171 := by kernel_rfl
theorem tie172 : compF Tryz.prog ids (fun i => ([[0,1,20],[0,1],[]] : List (List Nat)).getD i []) false false false false Tryz.f73 = some F172 := by kernel_rfl
theorem tie173 : compF Tryz.prog ids (fun i => ([[0,1,4],[0,1,4,5],[0,1,4,5,19],[0,1,4,5],[0,1,4,5,6],[0,1,4,5,7],[0,1,4,7,32],[4],[0,1,4,7,8],[0,1,4,7,8,45],[0,1,4,7,8],[4,7,8],[4],[0,1,4,5,9],[0,1,4,5,9,59],[0,4,9],[0,4,9],[0,1,4,5,9,64],[0,1,4,9],[0,1,4,9,10],[0,1,4,9,10],[0,4,9],[0,1,4,5,9,79],[0,1,4,5,9],[0,1,4,5,9,11],[0,1,4,5,9,11],[0,4,9],[0,1,4,5,9,109],[0,1,4,5,9],[0,1,4,5,9],[0,4,9],[4,9],[4],[4,9],[4]] : List (List Nat)).getD i []) false false false false Tryz.f74 = some F173 := by kernel_rfl
theorem tie176 : compF Tryz.prog ids (fun i => ([[0,1,5,6],[6]] : List (List Nat)).getD i []) false false false false Tryz.f75 = some F176 := by kernel_rfl
theorem tie177 : compF Tryz.prog ids (fun i => ([[0,1,4],[0,1,4,5],[0,1,4,5,12],[0,1,4,5],[0,1,4,15],[0,1,4,15,16],[0,1,4,15,16],[4],[0,1,4,15,25],[0,1,4,15,25],[4],[0,1,4,15,34],[0,1,4,15,34],[4],[0,1,4,15,43],[0,1,4,15,43],[0,1,4,6],[4],[0,1,4,57],[4],[0,1,4,7],[0,1,4,7,8],[4]] : List (List Nat)).getD i []) false false false false Tryz.f76 = some F177 := by kernel_rfl
theorem tie178 : compF Tryz.prog ids (fun i => ([[0,1,6,7,8],[8]] : List (List Nat)).getD i []) false false false false Tryz.f77 = some F178 := by kernel_rfl
theorem tie179 : compF Tryz.prog ids (fun i => ([[0,1,4],[0,1,4,5],[0,1,4,5,13],[0,1,4,5],[0,1,4,16],[0,1,4,16,17],[4],[0,1,4,16,22],[0,1,4,16,22],[0,1,4,16,22],[0,1,4,16,22],[0,1,4,6],[0,1,4,6,7],[4],[0,1,4,43],[4],[0,1,4,8],[0,1,4,8,9],[4]] : List (List Nat)).getD i []) false false false false Tryz.f78 = some F179 := by kernel_rfl
theorem tie38 : compF Tryz.prog ids (fun i => ([[]] : List (List Nat)).getD i []) false false false false Tryz.f79 = some F38 := by kernel_rfl
theorem tie39 : compF Tryz.prog ids (fun i => ([[1,2],[1,2,10],[4],[1,12,13,14],[1,12,13,14,15],[1,6,12,13,14],[1,12,13,14,21],[4],[1,12,13,14],[4]] : List (List Nat)).getD i []) false false false false Tryz.f80 = some F39 := by kernel_rfl
theorem tie180 : compF Tryz.prog ids (fun i => ([[0,2,3],[3],[]] : List (List Nat)).getD i []) false false true false Tryz.f81 = some F180 := by kernel_rfl
theorem tie181 : compF Tryz.prog ids (fun i => ([[]] : List (List Nat)).getD i []) false false false false Tryz.f82 = some F181 := by kernel_rfl
theorem tie182 : compF Tryz.prog ids (fun i => ([[]] : List (List Nat)).getD i []) false false false false Tryz.f83 = some F182 := by kernel_rfl
theorem tie183 : compF Tryz.prog ids (fun i => ([[]] : List (List Nat)).getD i []) false false false false Tryz.f84 = some F183 := by kernel_rfl
theorem tie184 : compF Tryz.prog ids (fun i => ([[]] : List (List Nat)).getD i []) false false false false Tryz.f85 = some F184 := by kernel_rfl
theorem tie185 : compF Tryz.prog ids (fun i => ([[]] : List (List Nat)).getD i []) false false false false Tryz.f86 = some F185 := by kernel_rfl
theorem tie186 : compF Tryz.prog ids (fun i => ([[]] : List (List Nat)).getD i []) false false false false Tryz.f87 = some F186 := by kernel_rfl
theorem tie187 : compF Tryz.prog ids (fun i => ([[0],[3],[3,4],[2],[3,6],[2],[3,8],[2],[3,10],[2],[3,12],[3,12],[2],[3,15],[15],[2],[2]] : List (List Nat)).getD i []) false false false false Tryz.f88 = some F187 := by kernel_rfl
theorem tie188 : compF Tryz.prog ids (fun i => ([[]] : List (List Nat)).getD i []) false false false false Tryz.f89 = some F188 := by kernel_rfl
theorem tie189 : compF Tryz.prog ids (fun i => ([[]] : List (List Nat)).getD i []) false false false false Tryz.f90 = some F189 := by kernel_rfl
theorem tie190 : compF Tryz.prog ids (fun i => ([[]] : List (List Nat)).getD i []) false false false false Tryz.f91 = some F190 := by kernel_rfl
theorem tie191 : compF Tryz.prog ids (fun i => ([[0,3],[0,3,4],[0,3,4],[0,3,4],[0,4],[]] : List (List Nat)).getD i []) false false true false Tryz.f92 = some F191 := by kernel_rfl
theorem tie264 : compF Tryz.prog ids (fun i => ([[0],[2]] : List (List Nat)).getD i []) false false false false Tryz.f93 = some F264 := by kernel_rfl
theorem tie265 : compF Tryz.prog ids (fun i => ([[0,1,4],[0,1,4,5],[0,1,4,5,34],[0,1,4,5],[0,4,6],[4,6,7,8],[4,6,7,56],[4,6],[4,6,62],[4,6],[4]] : List (List Nat)).getD i []) false false false false Tryz.f94 = some F265 := by kernel_rfl
theorem tie266 : compF Tryz.prog ids (fun i => ([[0],[2]] : List (List Nat)).getD i []) false false false false Tryz.f95 = some F266 := by kernel_rfl
theorem tie267 : compF Tryz.prog ids (fun i => ([[0,1,4],[0,1,4,5,6],[0,1,4,5,6,24],[0,1,4,5,6],[0,1,4,5,6],[4,6,7],[4,7,50],[4,7],[4]] : List (List Nat)).getD i []) false false false false Tryz.f96 = some F267 := by kernel_rfl
theorem tie268 : compF Tryz.prog ids (fun i => ([[0,1],[4]] : List (List Nat)).getD i []) false false false false Tryz.f97 = some F268 := by kernel_rfl
theorem tie269 : compF Tryz.prog ids (fun i => ([[0,1],[1,5],[4]] : List (List Nat)).getD i []) false false false false Tryz.f98 = some F269 := by kernel_rfl
theorem tie270 : compF Tryz.prog ids (fun i => ([[0,1,13],[0,1],[]] : List (List Nat)).getD i []) false false false false Tryz.f99 = some F270 := by kernel_rfl
theorem tie271 : compF Tryz.prog ids (fun i => ([[0,1,4],[0,1,4,5],[0,1,4,5,11],[0,1,4,5],[0,1,4,5],[4],[0,1,4,5,28],[0,1,4,5,6],[0,1,4,5,6],[4],[0,1,4,5,47],[4],[0,1,4,5,54],[0,1,4],[0,1,4,7],[4],[0,1,4,5,70],[0,1,4],[0,1,4,8],[0,1,4,8],[4],[0,4,5,89],[0,4],[4],[4],[4]] : List (List Nat)).getD i []) false false false false Tryz.f100 = some F271 := by kernel_rfl
theorem tie272 : compF Tryz.prog ids (fun i => ([[0,6],[],[19]] : List (List Nat)).getD i []) false false false false Tryz.f101 = some F272 := by kernel_rfl
theorem tie273 : compF Tryz.prog ids (fun i => ([[0,2,4],[0,2,4,6],[0,4,6,12],[0,4,6],[0,4,6],[0,4,6,19],[0,4,6,19,20],[],[0,4,6,19,28],[0,32],[],[],[0,4,6,19,39],[0,4,6,19,39],[],[0,4,6,19,47],[0,4],[0],[],[0,4,6,19,61],[0,4,6],[],[0,4,6,73],[0,4,6,7],[0,4,6,7,77],[0,4,6,7],[0,4,6],[0,4,6],[]] : List (List Nat)).getD i []) false false true false Tryz.f102 = some F273 := by kernel_rfl
theorem tie274 : compF Tryz.prog ids (fun i => ([[1,2,4],[1,2,4,9],[4],[4]] : List (List Nat)).getD i []) false false false false Tryz.f103 = some F274 := by kernel_rfl
theorem tie163 : compF Tryz.prog ids (fun i => ([[0],[2]] : List (List Nat)).getD i []) false false false false Tryz.f104 = some F163 := by kernel_rfl
theorem tie192 : compF Tryz.prog ids (fun i => ([[0],[2]] : List (List Nat)).getD i []) false false false false Tryz.f105 = some F192 := by kernel_rfl
theorem tie193 : compF Tryz.prog ids (fun i => ([[0],[2]] : List (List Nat)).getD i []) false false false false Tryz.f106 = some F193 := by kernel_rfl
theorem tie194 : compF Tryz.prog ids (fun i => ([[0],[2]] : List (List Nat)).getD i []) false false false false Tryz.f108 = some F194 := by kernel_rfl
theorem tie195 : compF Tryz.prog ids (fun i => ([[0],[0,3],[0,3,4],[0,3,4,8],[0,3,4],[0,3,4],[0,3,4,20],[2],[2]] : List (List Nat)).getD i []) false false false false Tryz.f109 = some F195 := by kernel_rfl
theorem tie196 : compF Tryz.prog ids (fun i => ([[0,1],[0,1,5],[0,1,5,9],[0,1,5],[0,1,5,17],[4],[4]] : List (List Nat)).getD i []) false false false false Tryz.f110 = some F196 := by kernel_rfl
theorem tie197 : compF Tryz.prog ids (fun i => ([[0,1,2,6],[0,1,2,6,15],[6],[0,1,2,6,7],[0,1,2,6,7,24],[6],[0,1,2,6,7,30],[6],[0,1,2,6,7,39],[6],[0,1,2,6,7,45],[6],[0,1,2,6,7,50],[6],[0,1,6,7,56],[0,1,6],[0,6,8],[6,8],[6],[0,1,6,7,73],[6],[6],[0,1,6,7,79],[6,7],[6],[0,1,6,7,90],[6,7],[6,7,9],[6,9,94],[6,9],[6],[0,1,6,7,106],[6,7],[6],[0,1,6,7,112],[0,1,6,7],[6,7,10],[6],[0,6,7,129],[6,7],[6],[6],[6]] : List (List Nat)).getD i []) false false false false Tryz.f111 = some F197 := by kernel_rfl
theorem tie198 : compF Tryz.prog ids (fun i => ([[0],[2]] : List (List Nat)).getD i []) false false false false Tryz.f112 = some F198 := by kernel_rfl
theorem tie199 : compF Tryz.prog ids (fun i => ([[0,1,4],[0,1,4],[0,4,5],[4,5],[4]] : List (List Nat)).getD i []) false false false false Tryz.f113 = some F199 := by kernel_rfl
theorem tie200 : compF Tryz.prog ids (fun i => ([[0,1],[0,1,5],[0,1],[0],[4]] : List (List Nat)).getD i []) false false true false Tryz.f114 = some F200 := by kernel_rfl
theorem tie201 : compF Tryz.prog ids (fun i => ([[1,2],[2,5],[4]] : List (List Nat)).getD i []) false false false false Tryz.f115 = some F201 := by kernel_rfl
theorem tie275 : compF Tryz.prog ids (fun i => ([[0,1],[4]] : List (List Nat)).getD i []) false false false false Tryz.f116 = some F275 := by kernel_rfl
theorem tie276 : compF Tryz.prog ids (fun i => ([[0,1],[4]] : List (List Nat)).getD i []) false false false false Tryz.f117 = some F276 := by kernel_rfl
theorem tie277 : compF Tryz.prog ids (fun i => ([[0,2],[0,2,3],[2,3],[2]] : List (List Nat)).getD i []) false false false false Tryz.f118 = some F277 := by kernel_rfl
theorem tie278 : compF Tryz.prog ids (fun i => ([[0,3,4],[3,4],[4]] : List (List Nat)).getD i []) false false false false Tryz.f119 = some F278 := by kernel_rfl
theorem tie279 : compF Tryz.prog ids (fun i => ([[2,3,4],[4]] : List (List Nat)).getD i []) false false false false Tryz.f120 = some F279 := by kernel_rfl
theorem tie280 : compF Tryz.prog ids (fun i => ([[0,1,4],[0,1,4],[0,1,4],[0,4,5],[4,5],[4]] : List (List Nat)).getD i []) false false false false Tryz.f121 = some F280 := by kernel_rfl
theorem tie281 : compF Tryz.prog ids (fun i => ([[0,1,4],[0,1,4],[0,1,4,5],[0,1,4,5,6,7],[0,1,4,5,6,7,20],[0,1,4,5,6,7],[4,5,6,7],[4]] : List (List Nat)).getD i []) false false false false Tryz.f122 = some F281 := by kernel_rfl
theorem tie282 : compF Tryz.prog ids (fun i => ([[1],[1,3],[2],[1,12],[2],[1,16],[2],[21],[21,22],[2],[21,24],[2],[21,26],[21,26],[2],[21,29],[29],[2],[2]] : List (List Nat)).getD i []) false false false false Tryz.f124 = some F282 := by kernel_rfl
theorem tie283 : compF Tryz.prog ids (fun i => ([[0],[2]] : List (List Nat)).getD i []) false false false false Tryz.f125 = some F283 := by kernel_rfl
theorem tie202 : compF Tryz.prog ids (fun i => ([[0,1,2,3,8],[0,1,2,3,8],[1,8,9],[8]] : List (List Nat)).getD i []) false false false false Tryz.f127 = some F202 := by kernel_rfl
theorem tie203 : compF Tryz.prog ids (fun i => ([[0,1,2,6],[0,1,2,6,7],[0,1,2,6,7,8],[0,1,2,6,7,8,35],[0,1,2,6,7,8,9],[0,1,2,6,7,8,9],[0,1,2,6,7,8,9,10],[0,1,2,6,7,8],[0,1,2,6,7,8,51],[6]] : List (List Nat)).getD i []) false false false false Tryz.f128 = some F203 := by kernel_rfl
theorem tie204 : compF Tryz.prog ids (fun i => ([[]] : List (List Nat)).getD i []) false true false false Tryz.f129 = some F204 := by kernel_rfl
theorem tie284 : compF Tryz.prog ids (fun i => ([[0,1],[0,1,7,8],[0,1,7,8,9],[0,1,5,7,8],[0,1,5,7,8,16],[4],[0,1,7,8],[4]] : List (List Nat)).getD i []) false false false false Tryz.f131 = some F284 := by kernel_rfl
theorem tie285 : compF Tryz.prog ids (fun i => ([[0,1,2,6],[0,1,2,6,7],[0,1,2,6,7,13],[0,1,2,6,7,8],[0,1,2,6,7],[6]] : List (List Nat)).getD i []) false false false false Tryz.f132 = some F285 := by kernel_rfl
theorem tie286 : compF Tryz.prog ids (fun i => ([[0,1,2],[2]] : List (List Nat)).getD i []) false false false false Tryz.f133 = some F286 := by kernel_rfl
theorem tie287 : compF Tryz.prog ids (fun i => ([[2,3,4],[4]] : List (List Nat)).getD i []) false false false false Tryz.f134 = some F287 := by kernel_rfl
theorem tie288 : compF Tryz.prog ids (fun i => ([[0],[2]] : List (List Nat)).getD i []) false false false false Tryz.f135 = some F288 := by kernel_rfl
theorem tie289 : compF Tryz.prog ids (fun i => ([[0,1,2],[2]] : List (List Nat)).getD i []) false false false false Tryz.f138 = some F289 := by kernel_rfl
theorem tie290 : compF Tryz.prog ids (fun i => ([[0,1,4],[0,1,4,7],[0,1,4],[4],[4]] : List (List Nat)).getD i []) false false false false Tryz.f139 = some F290 := by kernel_rfl
theorem tie291 : compF Tryz.prog ids (fun i => ([[0,1],[0,1,11],[0,17],[4],[0,5],[0,5,6],[0,5,6,23],[0,5,6],[0,5,6,7],[0,5,7],[5,7,34],[5,7],[4],[4],[9],[4]] : List (List Nat)).getD i []) false false false false Tryz.f140 = some F291 := by kernel_rfl
theorem tie292 : compF Tryz.prog ids (fun i => ([[0,1,4],[0,1,4,5],[0,1,4,5,13],[4],[0,1,4,5,6],[4]] : List (List Nat)).getD i []) false false false false Tryz.f141 = some F292 := by kernel_rfl
theorem tie293 : compF Tryz.prog ids (fun i => ([[0],[0,4],[2],[2]] : List (List Nat)).getD i []) false false false false Tryz.f142 = some F293 := by kernel_rfl
theorem tie294 : compF Tryz.prog ids (fun i => ([[0],[0,3],[2]] : List (List Nat)).getD i []) false false false false Tryz.f143 = some F294 := by kernel_rfl
theorem tie295 : compF Tryz.prog ids (fun i => ([[0,1,4],[0,1,4,20],[0,1,4,5],[0,1,4,5],[0,1,4,6,7],[0,1,4,6,8,9],[0,1,4,8,9,10,11],[0,1,4,8,10,11],[0,1,4,10,11],[0,1,4,10],[0,1,4],[0,1,4],[0,4,12],[0,4,12,99],[0,4,12,13],[0,4,12,13],[0,4,12,14,15],[0,4,12,14],[0,4,12],[0,4,12],[0,4,12,139],[0,4,12,16],[0,4,12,16],[0,4,12],[0,4,12],[0,12,161],[]] : List (List Nat)).getD i []) false false false false Tryz.f144 = some F295 := by kernel_rfl
theorem tie297 : compF Tryz.prog ids (fun i => ([[2,3,4],[4]] : List (List Nat)).getD i []) false false false false Tryz.f146 = some F297 := by kernel_rfl
theorem tie298 : compF Tryz.prog ids (fun i => ([[0],[2]] : List (List Nat)).getD i []) false false false false Tryz.f147 = some F298 := by kernel_rfl
theorem tie299 : compF Tryz.prog ids (fun i => ([[0,2],[0,2,4],[0],[0,2],[0,2,8],[0,2],[0,2],[0,2,14],[0,2],[0,2],[2]] : List (List Nat)).getD i []) false false false false Tryz.f148 = some F299 := by kernel_rfl
theorem tie300 : compF Tryz.prog ids (fun i => ([[0],[3],[2],[2]] : List (List Nat)).getD i []) false false false false Tryz.f149 = some F300 := by kernel_rfl
theorem tie303 : compF Tryz.prog ids (fun i => ([[0,1,2],[2]] : List (List Nat)).getD i []) false false false false Tryz.f152 = some F303 := by kernel_rfl
theorem tie304 : compF Tryz.prog ids (fun i => ([[2,3,4],[4]] : List (List Nat)).getD i []) false false false false Tryz.f153 = some F304 := by kernel_rfl
theorem tie307 : compF Tryz.prog ids (fun i => ([[0,1,2],[2]] : List (List Nat)).getD i []) false false false false Tryz.f156 = some F307 := by kernel_rfl
theorem tie308 : compF Tryz.prog ids (fun i => ([[0,1,4],[0,1,4,7],[0,1,4],[4],[4]] : List (List Nat)).getD i []) false false false false Tryz.f157 = some F308 := by kernel_rfl
theorem tie309 : compF Tryz.prog ids (fun i => ([[0,1,4],[0,1,4,5],[0,1,4,5,9],[4,5],[4],[0,1,4,5,18],[4,5],[4],[0,1,4,5,27],[4],[0,1,4,5,38],[4],[4],[0,1,4,5,45],[4],[4],[0,1,4,5,52],[4,5],[4],[0,1,4],[0,4,6],[4,6],[4]] : List (List Nat)).getD i []) false false false false Tryz.f158 = some F309 := by kernel_rfl
def fid : Fid := ⟨fidF, fun N c pc => 2 * N ≤ dkey ∧ ∃ K ow d, comp Tryz.prog (ids.with ow d) N K c = some pc, fidT, fun g t nm => ∃ f, methT Tryz.prog t nm = some f ∧ ids.fn f = some g, ids.gl⟩
theorem hid : Ties Tryz.prog ids fid := by
  refine ⟨fun f g h => ?_, fun t u h => ?_, fun _ _ _ => Iff.rfl, fun _ _ h => h⟩
  · simp only [ids, idsF] at h
    split at h <;> first | (cases h; rfl) | cases h
  · simp only [ids, idsT] at h
    first | cases h | (split at h <;> first | (cases h; rfl) | cases h)
theorem hcr : Codes Tryz.prog ids fid := fun _ _ _ => Iff.rfl
theorem mixed : Tryz.prog.follows .mixedOrders = true := by kernel_rfl
theorem tied : Tied Tryz.prog ids fid prog13z := fun f pf h => by
  unfold prog13z at h
  split at h
  · cases h; exact ⟨Tryz.f23, _, _, _, _, Tryz.func23, tie15⟩
  · cases h; exact ⟨Tryz.f17, _, _, _, _, Tryz.func17, tie17⟩
  · cases h; exact ⟨Tryz.f20, _, _, _, _, Tryz.func20, tie23⟩
  · cases h; exact ⟨Tryz.f48, _, _, _, _, Tryz.func48, tie32⟩
  · cases h; exact ⟨Tryz.f79, _, _, _, _, Tryz.func79, tie38⟩
  · cases h; exact ⟨Tryz.f80, _, _, _, _, Tryz.func80, tie39⟩
  · cases h; exact ⟨Tryz.f10, _, _, _, _, Tryz.func10, tie123⟩
  · cases h; exact ⟨Tryz.f35, _, _, _, _, Tryz.func35, tie125⟩
  · cases h; exact ⟨Tryz.f15, _, _, _, _, Tryz.func15, tie127⟩
  · cases h; exact ⟨Tryz.f36, _, _, _, _, Tryz.func36, tie128⟩
  · cases h; exact ⟨Tryz.f11, _, _, _, _, Tryz.func11, tie131⟩
  · cases h; exact ⟨Tryz.f18, _, _, _, _, Tryz.func18, tie132⟩
  · cases h; exact ⟨Tryz.f14, _, _, _, _, Tryz.func14, tie133⟩
  · cases h; exact ⟨Tryz.f50, _, _, _, _, Tryz.func50, tie134⟩
  · cases h; exact ⟨Tryz.f21, _, _, _, _, Tryz.func21, tie136⟩
  · cases h; exact ⟨Tryz.f22, _, _, _, _, Tryz.func22, tie137⟩
  · cases h; exact ⟨Tryz.f68, _, _, _, _, Tryz.func68, tie138⟩
  · cases h; exact ⟨Tryz.f26, _, _, _, _, Tryz.func26, tie139⟩
  · cases h; exact ⟨Tryz.f27, _, _, _, _, Tryz.func27, tie140⟩
  · cases h; exact ⟨Tryz.f24, _, _, _, _, Tryz.func24, tie147⟩
  · cases h; exact ⟨Tryz.f25, _, _, _, _, Tryz.func25, tie148⟩
  · cases h; exact ⟨Tryz.f40, _, _, _, _, Tryz.func40, tie149⟩
  · cases h; exact ⟨Tryz.f41, _, _, _, _, Tryz.func41, tie150⟩
  · cases h; exact ⟨Tryz.f42, _, _, _, _, Tryz.func42, tie151⟩
  · cases h; exact ⟨Tryz.f38, _, _, _, _, Tryz.func38, tie152⟩
  · cases h; exact ⟨Tryz.f43, _, _, _, _, Tryz.func43, tie153⟩
  · cases h; exact ⟨Tryz.f44, _, _, _, _, Tryz.func44, tie154⟩
  · cases h; exact ⟨Tryz.f45, _, _, _, _, Tryz.func45, tie155⟩
  · cases h; exact ⟨Tryz.f47, _, _, _, _, Tryz.func47, tie162⟩
  · cases h; exact ⟨Tryz.f104, _, _, _, _, Tryz.func104, tie163⟩
  · cases h; exact ⟨Tryz.f55, _, _, _, _, Tryz.func55, tie164⟩
  · cases h; exact ⟨Tryz.f49, _, _, _, _, Tryz.func49, tie165⟩
  · cases h; exact ⟨Tryz.f51, _, _, _, _, Tryz.func51, tie166⟩
  · cases h; exact ⟨Tryz.f52, _, _, _, _, Tryz.func52, tie167⟩
  · cases h; exact ⟨Tryz.f53, _, _, _, _, Tryz.func53, tie168⟩
  · cases h; exact ⟨Tryz.f54, _, _, _, _, Tryz.func54, tie169⟩
  · cases h; exact ⟨Tryz.f71, _, _, _, _, Tryz.func71, tie170⟩
  · cases h; exact ⟨Tryz.f72, _, _, _, _, Tryz.func72, tie171⟩
  · cases h; exact ⟨Tryz.f73, _, _, _, _, Tryz.func73, tie172⟩
  · cases h; exact ⟨Tryz.f74, _, _, _, _, Tryz.func74, tie173⟩
  · cases h; exact ⟨Tryz.f75, _, _, _, _, Tryz.func75, tie176⟩
  · cases h; exact ⟨Tryz.f76, _, _, _, _, Tryz.func76, tie177⟩
  · cases h; exact ⟨Tryz.f77, _, _, _, _, Tryz.func77, tie178⟩
  · cases h; exact ⟨Tryz.f78, _, _, _, _, Tryz.func78, tie179⟩
  · cases h; exact ⟨Tryz.f81, _, _, _, _, Tryz.func81, tie180⟩
  · cases h; exact ⟨Tryz.f82, _, _, _, _, Tryz.func82, tie181⟩
  · cases h; exact ⟨Tryz.f83, _, _, _, _, Tryz.func83, tie182⟩
  · cases h; exact ⟨Tryz.f84, _, _, _, _, Tryz.func84, tie183⟩
  · cases h; exact ⟨Tryz.f85, _, _, _, _, Tryz.func85, tie184⟩
  · cases h; exact ⟨Tryz.f86, _, _, _, _, Tryz.func86, tie185⟩
  · cases h; exact ⟨Tryz.f87, _, _, _, _, Tryz.func87, tie186⟩
  · cases h; exact ⟨Tryz.f88, _, _, _, _, Tryz.func88, tie187⟩
  · cases h; exact ⟨Tryz.f89, _, _, _, _, Tryz.func89, tie188⟩
  · cases h; exact ⟨Tryz.f90, _, _, _, _, Tryz.func90, tie189⟩
  · cases h; exact ⟨Tryz.f91, _, _, _, _, Tryz.func91, tie190⟩
  · cases h; exact ⟨Tryz.f92, _, _, _, _, Tryz.func92, tie191⟩
  · cases h; exact ⟨Tryz.f105, _, _, _, _, Tryz.func105, tie192⟩
  · cases h; exact ⟨Tryz.f106, _, _, _, _, Tryz.func106, tie193⟩
  · cases h; exact ⟨Tryz.f108, _, _, _, _, Tryz.func108, tie194⟩
  · cases h; exact ⟨Tryz.f109, _, _, _, _, Tryz.func109, tie195⟩
  · cases h; exact ⟨Tryz.f110, _, _, _, _, Tryz.func110, tie196⟩
  · cases h; exact ⟨Tryz.f111, _, _, _, _, Tryz.func111, tie197⟩
  · cases h; exact ⟨Tryz.f112, _, _, _, _, Tryz.func112, tie198⟩
  · cases h; exact ⟨Tryz.f113, _, _, _, _, Tryz.func113, tie199⟩
  · cases h; exact ⟨Tryz.f114, _, _, _, _, Tryz.func114, tie200⟩
  · cases h; exact ⟨Tryz.f115, _, _, _, _, Tryz.func115, tie201⟩
  · cases h; exact ⟨Tryz.f127, _, _, _, _, Tryz.func127, tie202⟩
  · cases h; exact ⟨Tryz.f128, _, _, _, _, Tryz.func128, tie203⟩
  · cases h; exact ⟨Tryz.f129, _, _, _, _, Tryz.func129, tie204⟩
  · cases h; exact ⟨Tryz.f12, _, _, _, _, Tryz.func12, tie228⟩
  · cases h; exact ⟨Tryz.f13, _, _, _, _, Tryz.func13, tie231⟩
  · cases h; exact ⟨Tryz.f28, _, _, _, _, Tryz.func28, tie239⟩
  · cases h; exact ⟨Tryz.f29, _, _, _, _, Tryz.func29, tie240⟩
  · cases h; exact ⟨Tryz.f30, _, _, _, _, Tryz.func30, tie241⟩
  · cases h; exact ⟨Tryz.f31, _, _, _, _, Tryz.func31, tie242⟩
  · cases h; exact ⟨Tryz.f32, _, _, _, _, Tryz.func32, tie243⟩
  · cases h; exact ⟨Tryz.f33, _, _, _, _, Tryz.func33, tie244⟩
  · cases h; exact ⟨Tryz.f34, _, _, _, _, Tryz.func34, tie245⟩
  · cases h; exact ⟨Tryz.f56, _, _, _, _, Tryz.func56, tie249⟩
  · cases h; exact ⟨Tryz.f57, _, _, _, _, Tryz.func57, tie250⟩
  · cases h; exact ⟨Tryz.f58, _, _, _, _, Tryz.func58, tie251⟩
  · cases h; exact ⟨Tryz.f59, _, _, _, _, Tryz.func59, tie252⟩
  · cases h; exact ⟨Tryz.f60, _, _, _, _, Tryz.func60, tie253⟩
  · cases h; exact ⟨Tryz.f61, _, _, _, _, Tryz.func61, tie254⟩
  · cases h; exact ⟨Tryz.f62, _, _, _, _, Tryz.func62, tie255⟩
  · cases h; exact ⟨Tryz.f63, _, _, _, _, Tryz.func63, tie256⟩
  · cases h; exact ⟨Tryz.f64, _, _, _, _, Tryz.func64, tie257⟩
  · cases h; exact ⟨Tryz.f65, _, _, _, _, Tryz.func65, tie258⟩
  · cases h; exact ⟨Tryz.f66, _, _, _, _, Tryz.func66, tie259⟩
  · cases h; exact ⟨Tryz.f67, _, _, _, _, Tryz.func67, tie260⟩
  · cases h; exact ⟨Tryz.f93, _, _, _, _, Tryz.func93, tie264⟩
  · cases h; exact ⟨Tryz.f94, _, _, _, _, Tryz.func94, tie265⟩
  · cases h; exact ⟨Tryz.f95, _, _, _, _, Tryz.func95, tie266⟩
  · cases h; exact ⟨Tryz.f96, _, _, _, _, Tryz.func96, tie267⟩
  · cases h; exact ⟨Tryz.f97, _, _, _, _, Tryz.func97, tie268⟩
  · cases h; exact ⟨Tryz.f98, _, _, _, _, Tryz.func98, tie269⟩
  · cases h; exact ⟨Tryz.f99, _, _, _, _, Tryz.func99, tie270⟩
  · cases h; exact ⟨Tryz.f100, _, _, _, _, Tryz.func100, tie271⟩
  · cases h; exact ⟨Tryz.f101, _, _, _, _, Tryz.func101, tie272⟩
  · cases h; exact ⟨Tryz.f102, _, _, _, _, Tryz.func102, tie273⟩
  · cases h; exact ⟨Tryz.f103, _, _, _, _, Tryz.func103, tie274⟩
  · cases h; exact ⟨Tryz.f116, _, _, _, _, Tryz.func116, tie275⟩
  · cases h; exact ⟨Tryz.f117, _, _, _, _, Tryz.func117, tie276⟩
  · cases h; exact ⟨Tryz.f118, _, _, _, _, Tryz.func118, tie277⟩
  · cases h; exact ⟨Tryz.f119, _, _, _, _, Tryz.func119, tie278⟩
  · cases h; exact ⟨Tryz.f120, _, _, _, _, Tryz.func120, tie279⟩
  · cases h; exact ⟨Tryz.f121, _, _, _, _, Tryz.func121, tie280⟩
  · cases h; exact ⟨Tryz.f122, _, _, _, _, Tryz.func122, tie281⟩
  · cases h; exact ⟨Tryz.f124, _, _, _, _, Tryz.func124, tie282⟩
  · cases h; exact ⟨Tryz.f125, _, _, _, _, Tryz.func125, tie283⟩
  · cases h; exact ⟨Tryz.f131, _, _, _, _, Tryz.func131, tie284⟩
  · cases h; exact ⟨Tryz.f132, _, _, _, _, Tryz.func132, tie285⟩
  · cases h; exact ⟨Tryz.f133, _, _, _, _, Tryz.func133, tie286⟩
  · cases h; exact ⟨Tryz.f134, _, _, _, _, Tryz.func134, tie287⟩
  · cases h; exact ⟨Tryz.f135, _, _, _, _, Tryz.func135, tie288⟩
  · cases h; exact ⟨Tryz.f138, _, _, _, _, Tryz.func138, tie289⟩
  · cases h; exact ⟨Tryz.f139, _, _, _, _, Tryz.func139, tie290⟩
  · cases h; exact ⟨Tryz.f140, _, _, _, _, Tryz.func140, tie291⟩
  · cases h; exact ⟨Tryz.f141, _, _, _, _, Tryz.func141, tie292⟩
  · cases h; exact ⟨Tryz.f142, _, _, _, _, Tryz.func142, tie293⟩
  · cases h; exact ⟨Tryz.f143, _, _, _, _, Tryz.func143, tie294⟩
  · cases h; exact ⟨Tryz.f144, _, _, _, _, Tryz.func144, tie295⟩
  · cases h; exact ⟨Tryz.f146, _, _, _, _, Tryz.func146, tie297⟩
  · cases h; exact ⟨Tryz.f147, _, _, _, _, Tryz.func147, tie298⟩
  · cases h; exact ⟨Tryz.f148, _, _, _, _, Tryz.func148, tie299⟩
  · cases h; exact ⟨Tryz.f149, _, _, _, _, Tryz.func149, tie300⟩
  · cases h; exact ⟨Tryz.f152, _, _, _, _, Tryz.func152, tie303⟩
  · cases h; exact ⟨Tryz.f153, _, _, _, _, Tryz.func153, tie304⟩
  · cases h; exact ⟨Tryz.f156, _, _, _, _, Tryz.func156, tie307⟩
  · cases h; exact ⟨Tryz.f157, _, _, _, _, Tryz.func157, tie308⟩
  · cases h; exact ⟨Tryz.f158, _, _, _, _, Tryz.func158, tie309⟩
  · cases h; exact ⟨Tryz.f4, _, _, _, _, Tryz.func4, tie312⟩
  · cases h
theorem glb {w : World} (h : laidMet Tryz.prog [("math/bits.deBruijn32tab", Rows.laid_math_bits_deBruijn32tab), ("math/bits.deBruijn64tab", Rows.laid_math_bits_deBruijn64tab), ("internal/strconv.uint64pow10", Rows.laid_internal_strconv_uint64pow10), ("arenanet/compile.effects", Rows.laid_arenanet_compile_effects)] w) : GlbAt fid w := fun g cs hg => by
  simp only [fid, ids, idsG] at hg
  split at hg
  · cases hg
    exact ⟨(effRows15.flatten.map (Value.int .i64)), glb_of_laids (P := Tryz.prog) (n := "arenanet/compile.effects") (d := Rows.laid_arenanet_compile_effects) (L := [("math/bits.deBruijn32tab", Rows.laid_math_bits_deBruijn32tab), ("math/bits.deBruijn64tab", Rows.laid_math_bits_deBruijn64tab), ("internal/strconv.uint64pow10", Rows.laid_internal_strconv_uint64pow10), ("arenanet/compile.effects", Rows.laid_arenanet_compile_effects)]) (g := 0) (t := 117) (vs := (effRows15.flatten.map (Value.int .i64))) (m := 4) (by simp) (by kernel_rfl) (by kernel_rfl) (by kernel_rfl) (by kernel_rfl) h⟩
  · cases hg
    exact ⟨((List.range 20).map fun i => Value.int .u64 (10 ^ i : Nat)), glb_of_laids (P := Tryz.prog) (n := "internal/strconv.uint64pow10") (d := Rows.laid_internal_strconv_uint64pow10) (L := [("math/bits.deBruijn32tab", Rows.laid_math_bits_deBruijn32tab), ("math/bits.deBruijn64tab", Rows.laid_math_bits_deBruijn64tab), ("internal/strconv.uint64pow10", Rows.laid_internal_strconv_uint64pow10), ("arenanet/compile.effects", Rows.laid_arenanet_compile_effects)]) (g := 2) (t := 168) (vs := ((List.range 20).map fun i => Value.int .u64 (10 ^ i : Nat))) (m := 3) (by simp) (by kernel_rfl) (by kernel_rfl) (by kernel_rfl) (by kernel_rfl) h⟩
  · cases hg
end Go.Proofs.YtoccgneneplciaaGreatDoor.T
end
