/- The abstract machine's programs: tables of functions. The abstract machine's programs: tables of functions. The abstract machine's programs: tables of functions. The abstract machine's programs: tables of functions. The abstract machine's programs: tables of functions. -/
import Derived.Test.YtjdbkncfebebnaaDoorPmFX
set_option linter.unusedSimpArgs false
set_option linter.unusedVariables false
section STb14
namespace Go.Pm.F
def base14v : Nat -> Option PFun
 | 15 => some F15
 | 32 => some F32
 | 38 => some F38
 | 39 => some F39
 | _ => none
end Go.Pm.F
end STb14
section STb15
namespace Go.Pm.F
def base15 : Nat -> Option PFun
 | 15 => some F15
 | 17 => some F17
 | 32 => some F32
 | 38 => some F38
 | 39 => some F39
 | 125 => some F125
 | 127 => some F127
 | 128 => some F128
 | 131 => some F131
 | 132 => some F132
 | 133 => some F133
 | 134 => some F134
 | 138 => some F138
 | 139 => some F139
 | 140 => some F140
 | 147 => some F147
 | 148 => some F148
 | 149 => some F149
 | 150 => some F150
 | 151 => some F151
 | 152 => some F152
 | 153 => some F153
 | 154 => some F154
 | 155 => some F155
 | 163 => some F163
 | 164 => some F164
 | 165 => some F165
 | 166 => some F166
 | 167 => some F167
 | 168 => some F168
 | 169 => some F169
 | 170 => some F170
 | 171 => some F171
 | 172 => some F172
 | 173 => some F173
 | 180 => some F180
 | 181 => some F181
 | 182 => some F182
 | 183 => some F183
 | 184 => some F184
 | 185 => some F185
 | 186 => some F186
 | 187 => some F187
 | 188 => some F188
 | 189 => some F189
 | 190 => some F190
 | 191 => some F191
 | 192 => some F192
 | 193 => some F193
 | 194 => some F194
 | 195 => some F195
 | 196 => some F196
 | 197 => some F197
 | 198 => some F198
 | 199 => some F199
 | 200 => some F200
 | 201 => some F201
 | 202 => some F202
 | 203 => some F203
 | 204 => some F204
 | _ => none
theorem sub_base14v_base15 : ∀ f pf, base14v f = some pf -> base15 f = some pf := fun f pf h => by
 unfold base14v at h
 split at h <;> first | (cases h; rfl) | cases h
end Go.Pm.F
end STb15
section STR
namespace Go.Pm.F
def tR : Nat -> Option PFun
 | 132 => some F132
 | 149 => some F149
 | 150 => some F150
 | 151 => some F151
 | 152 => some F152
 | 153 => some F153
 | 154 => some F154
 | 155 => some F155
 | 170 => some F170
 | 171 => some F171
 | 172 => some F172
 | 173 => some F173
 | 192 => some F192
 | 193 => some F193
 | 194 => some F194
 | 195 => some F195
 | 196 => some F196
 | 197 => some F197
 | 198 => some F198
 | 199 => some F199
 | 202 => some F202
 | 203 => some F203
 | _ => none
end Go.Pm.F
end STR
section STS
namespace Go.Pm.F
def tS : Nat -> Option PFun
 | 20 => some F20
 | 152 => some F152
 | 192 => some F192
 | 193 => some F193
 | _ => none
end Go.Pm.F
end STS
section STb13
namespace Go.Pm.F
def prog13d : Nat -> Option PFun
 | 15 => some F15
 | 17 => some F17
 | 20 => some F20
 | 32 => some F32
 | 38 => some F38
 | 39 => some F39
 | 120 => some F120
 | 125 => some F125
 | 127 => some F127
 | 128 => some F128
 | 131 => some F131
 | 132 => some F132
 | 133 => some F133
 | 134 => some F134
 | 138 => some F138
 | 139 => some F139
 | 140 => some F140
 | 147 => some F147
 | 148 => some F148
 | 149 => some F149
 | 150 => some F150
 | 151 => some F151
 | 152 => some F152
 | 153 => some F153
 | 154 => some F154
 | 155 => some F155
 | 163 => some F163
 | 164 => some F164
 | 165 => some F165
 | 166 => some F166
 | 167 => some F167
 | 168 => some F168
 | 169 => some F169
 | 170 => some F170
 | 171 => some F171
 | 172 => some F172
 | 173 => some F173
 | 180 => some F180
 | 181 => some F181
 | 182 => some F182
 | 183 => some F183
 | 184 => some F184
 | 185 => some F185
 | 186 => some F186
 | 187 => some F187
 | 188 => some F188
 | 189 => some F189
 | 190 => some F190
 | 191 => some F191
 | 192 => some F192
 | 193 => some F193
 | 194 => some F194
 | 195 => some F195
 | 196 => some F196
 | 197 => some F197
 | 198 => some F198
 | 199 => some F199
 | 200 => some F200
 | 201 => some F201
 | 202 => some F202
 | 203 => some F203
 | 204 => some F204
 | _ => none
theorem sub_tR_prog13d : ∀ f pf, tR f = some pf -> prog13d f = some pf := fun f pf h => by
 unfold tR at h
 split at h <;> first | (cases h; rfl) | cases h
theorem sub_tS_prog13d : ∀ f pf, tS f = some pf -> prog13d f = some pf := fun f pf h => by
 unfold tS at h
 split at h <;> first | (cases h; rfl) | cases h
theorem sub_base15_prog13d : ∀ f pf, base15 f = some pf -> prog13d f = some pf := fun f pf h => by
 unfold base15 at h
 split at h <;> first | (cases h; rfl) | cases h
end Go.Pm.F
end STb13
