/- The abstract machine's programs: tables of functions. The abstract machine's programs: tables of functions. The abstract machine's programs: tables of functions. -/
import Derived.Test.YtdnnjabacgpfdaaGreatDoorPmFX
set_option linter.unusedSimpArgs false
set_option linter.unusedVariables false
section STb14
namespace Go.Pm.F
def base14v : Nat -> Option PFun
 | 15 => some F15
 | 16 => some F16
 | 28 => some F28
 | 32 => some F32
 | 33 => some F33
 | 38 => some F38
 | 39 => some F39
 | _ => none
def base14 : Nat -> Option PFun
 | 15 => some F15
 | 16 => some F16
 | 28 => some F28
 | 32 => some F32
 | 33 => some F33
 | 38 => some F38
 | 39 => some F39
 | _ => none
end Go.Pm.F
end STb14
section STb15
namespace Go.Pm.F
def base15 : Nat -> Option PFun
 | 15 => some F15
 | 16 => some F16
 | 17 => some F17
 | 23 => some F23
 | 28 => some F28
 | 32 => some F32
 | 33 => some F33
 | 38 => some F38
 | 39 => some F39
 | 122 => some F122
 | 123 => some F123
 | 125 => some F125
 | 127 => some F127
 | 128 => some F128
 | 129 => some F129
 | 131 => some F131
 | 132 => some F132
 | 133 => some F133
 | 134 => some F134
 | 135 => some F135
 | 136 => some F136
 | 137 => some F137
 | 138 => some F138
 | 139 => some F139
 | 140 => some F140
 | 142 => some F142
 | 144 => some F144
 | 145 => some F145
 | 146 => some F146
 | 147 => some F147
 | 148 => some F148
 | 149 => some F149
 | 150 => some F150
 | 151 => some F151
 | 152 => some F152
 | 153 => some F153
 | 154 => some F154
 | 155 => some F155
 | 156 => some F156
 | 157 => some F157
 | 158 => some F158
 | 159 => some F159
 | 160 => some F160
 | 161 => some F161
 | 162 => some F162
 | 163 => some F163
 | 164 => some F164
 | 165 => some F165
 | 166 => some F166
 | 167 => some F167
 | 168 => some F168
 | 169 => some F169
 | 170 => some F170
 | 171 => some F171
 | 172 => some F172
 | 173 => some F173
 | 174 => some F174
 | 175 => some F175
 | 176 => some F176
 | 177 => some F177
 | 178 => some F178
 | 179 => some F179
 | 180 => some F180
 | 181 => some F181
 | 182 => some F182
 | 183 => some F183
 | 184 => some F184
 | 185 => some F185
 | 186 => some F186
 | 187 => some F187
 | 188 => some F188
 | 189 => some F189
 | 190 => some F190
 | 191 => some F191
 | 192 => some F192
 | 193 => some F193
 | 194 => some F194
 | 195 => some F195
 | 196 => some F196
 | 197 => some F197
 | 198 => some F198
 | 199 => some F199
 | 200 => some F200
 | 201 => some F201
 | 202 => some F202
 | 203 => some F203
 | 204 => some F204
 | _ => none
theorem sub_base14v_base15 : ∀ f pf, base14v f = some pf -> base15 f = some pf := fun f pf h => by
 unfold base14v at h
 split at h <;> first | (cases h; rfl) | cases h
end Go.Pm.F
end STb15
section STb15Z
namespace Go.Pm.F
def prog15z : Nat -> Option PFun
 | 15 => some F15
 | 16 => some F16
 | 17 => some F17
 | 23 => some F23
 | 28 => some F28
 | 32 => some F32
 | 33 => some F33
 | 38 => some F38
 | 39 => some F39
 | 58 => some F58
 | 122 => some F122
 | 123 => some F123
 | 125 => some F125
 | 127 => some F127
 | 128 => some F128
 | 129 => some F129
 | 131 => some F131
 | 132 => some F132
 | 133 => some F133
 | 134 => some F134
 | 135 => some F135
 | 136 => some F136
 | 137 => some F137
 | 138 => some F138
 | 139 => some F139
 | 140 => some F140
 | 142 => some F142
 | 144 => some F144
 | 145 => some F145
 | 146 => some F146
 | 147 => some F147
 | 148 => some F148
 | 149 => some F149
 | 150 => some F150
 | 151 => some F151
 | 152 => some F152
 | 153 => some F153
 | 154 => some F154
 | 155 => some F155
 | 156 => some F156
 | 157 => some F157
 | 158 => some F158
 | 159 => some F159
 | 160 => some F160
 | 161 => some F161
 | 162 => some F162
 | 163 => some F163
 | 164 => some F164
 | 165 => some F165
 | 166 => some F166
 | 167 => some F167
 | 168 => some F168
 | 169 => some F169
 | 170 => some F170
 | 171 => some F171
 | 172 => some F172
 | 173 => some F173
 | 174 => some F174
 | 175 => some F175
 | 176 => some F176
 | 177 => some F177
 | 178 => some F178
 | 179 => some F179
 | 180 => some F180
 | 181 => some F181
 | 182 => some F182
 | 183 => some F183
 | 184 => some F184
 | 185 => some F185
 | 186 => some F186
 | 187 => some F187
 | 188 => some F188
 | 189 => some F189
 | 190 => some F190
 | 191 => some F191
 | 192 => some F192
 | 193 => some F193
 | 194 => some F194
 | 195 => some F195
 | 196 => some F196
 | 197 => some F197
 | 198 => some F198
 | 199 => some F199
 | 200 => some F200
 | 201 => some F201
 | 202 => some F202
 | 203 => some F203
 | 204 => some F204
 | 205 => some F205
 | 207 => some F207
 | 208 => some F208
 | 209 => some F209
 | 210 => some F210
 | 211 => some F211
 | 212 => some F212
 | 213 => some F213
 | 214 => some F214
 | 215 => some F215
 | 216 => some F216
 | 217 => some F217
 | _ => none
theorem sub_base15_prog15z : ∀ f pf, base15 f = some pf -> prog15z f = some pf := fun f pf h => by
 unfold base15 at h
 split at h <;> first | (cases h; rfl) | cases h
end Go.Pm.F
end STb15Z
