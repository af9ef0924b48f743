/- The abstract machine's program, printed by a program of our own: group 6r. -/
import Derived.Test.YtebnoobfoajkbaaGreatDoorPmR
import Derived.Test.YtebnoobfoajkbaaGreatDoorPmAL
import Derived.KernelRfl
set_option linter.unusedSimpArgs false
set_option linter.unusedVariables false
section
namespace Go.Pm.F
variable(C:Task->Option Res)(q:Nat)(fr:Fr)(σ : S)
@[simp] def F47l0x:PC:=(.seq (sr [mv 14 6,bk 15 .add 14 1,mv 16 1,ls 17 16,bn 18 .lss 15 17,mv 19 18,jt 20 19 (.mov (.t 6)),jt 21 19 (.bin .lss (.t 20) (kk 40)),jj 22 (.pick (.t 19) (.t 21) kF)] [1,5,6,22] (.cond (.t 22) .skip (.exit 0))) (.seq (.block 1 (sr [mv 25 1,mv 26 6,jj 27 (.indexAddr 1 (.t 25) (.t 26)),l1 28 27,mv 29 5,ls 30 29,cl 31 17 [28,30],mv 7 31] [1,5,6,7] (sr [mv 32 1,mv 33 6,bk 34 .add 33 1,jj 35 (.indexAddr 1 (.t 32) (.t 34)),l1 36 35,jj 37 (.call 17 [(.t 36),(kk 100000)]),mv 8 37] [1,5,6,7,8] (sr [mv 38 8,bk 39 .rem 38 41,bk 40 .sub 39 20,mv 9 40] [1,5,6,7,8,9] (.seq (sr [mv 41 8,bk 42 .rem 41 7,bk 43 .eql 42 0] [1,5,6,7,8,9,43] (cs 43 (rn [jj 44 (.bslice 7 [zN,zN,zN,zN,zN,zN,zN] [(0,1,(kk 2147483647)),(1,1,(kk (-2147483647))),(2,1,(kk 65536)),(3,1,(kk 46341)),(4,1,(kk (-46341))),(5,1,(kk 1048577)),(6,1,(kk 16385))]),mv 45 8,bk 46 .quo 45 7,bk 47 .rem 46 7,jj 48 (.indexAddr 1 (.t 44) (.t 47)),l1 49 48,mv 9 49] [1,5,6,7,8,9]))) (.seq (sr [mv 50 7,bk 51 .eql 50 6,mv 52 51,jf 53 52 (.mov (.t 7)),jf 54 52 (.bin .eql (.t 53) (kk 7)),jj 55 (.pick (.t 52) kT (.t 54)),mv 56 55,jf 57 56 (.mov (.t 7)),jf 58 56 (.bin .eql (.t 57) (kk 8)),jj 59 (.pick (.t 56) kT (.t 58))] [1,5,6,7,8,9,59] (cs 59 (rn [mv 60 9,jj 61 (.call 17 [(.t 60),(kk 24)]),mv 9 61] [1,5,6,7,8,9]))) (.seq (sr [mv 62 7,bk 63 .eql 62 11] [1,5,6,7,8,9,63] (cs 63 (rn [jj 64 (.bslice 5 [zN,zN,zN,zN,zN] [(0,1,(kk 0)),(1,1,(kk 1)),(2,1,(kk 39)),(3,1,(kk 40)),(4,1,(kk 41))]),mv 65 8,bk 66 .rem 65 5,jj 67 (.indexAddr 1 (.t 64) (.t 66)),l1 68 67,mv 9 68] [1,5,6,7,9]))) (rn [mv 69 5,mv 70 7,mv 71 9,jj 72 (.indexAddr 1 (.t 69) (.t 70)),st 1 72 71] [1,5,6])))))))) (rn [mv 23 6,bk 24 .add 23 2,mv 6 24] [1,5,6])))
def F47l0:PC:=F47l0x
theorem qb7:run C q F47l0 fr σ = run C q F47l0x fr σ := rfl
def F47:PFun:=pf 2 [.tmp 4] (sr [bx 2 0,jj 4 (.mov (.c (.slice none 0 0)))] [1,2] (sr [jj 10 (.bslice 0 [] []),la 11 16 2,cl 12 55 [11],jj 13 (.appendO 1 8 (.t 10) (.t 12)),mv 5 13] [1,5] (.seq (sr [mx 6 (kk 0)] [1,5,6] (.block 0 (.loop F47l0))) (sr [mv 73 5,mv 4 73] [4] .ret))))
def F56:PFun:=pf 6 [.tmp 12,.tmp 13] (sr [bx 7 1,jj 12 (.mov (.c (.slice none 0 0))),mx 13 kF] [0,2,3,4,5,7] (.seq (sr [mv 15 2,bk 16 .lss 15 0,mv 17 16,jf 18 17 (.mov (.t 2)),jf 19 17 (.bin .gtr (.t 18) (kk 2)),jj 20 (.pick (.t 17) kT (.t 19))] [0,2,3,4,5,7,20] (cs 20 (sr [mv 21 0,mv 12 21,mx 13 kF] [12,13] .ret))) (.seq (sr [mv 22 2,fa 23 1 7,jj 24 (.indexAddrA 3 1 (.t 23) (.t 22)),l1 25 24,bk 26 .lss 25 0] [0,2,3,4,5,7,26] (cs 26 (sr [mv 27 0,mv 12 27,mx 13 kF] [12,13] .ret))) (sr [jj 28 (.bslice 0 [] []),mv 29 0,jj 30 (.appendO 1 8 (.t 28) (.t 29)),mv 14 30] [2,3,4,5,7,14] (sr [mv 31 14,mv 32 2,fa 33 1 7,jj 34 (.indexAddrA 3 1 (.t 33) (.t 32)),l1 35 34,jj 36 (.indexAddr 1 (.t 31) (kk 6)),st 1 36 35] [3,4,5,14] (sr [mv 37 14,jj 38 (.indexAddr 1 (.t 37) (kk 7)),jn (.store 1 (.t 38) (kk 0))] [3,4,5,14] (sr [mv 39 14,mv 40 5,jj 41 (.indexAddr 1 (.t 39) (kk 8)),st 1 41 40] [3,4,14] (sr [mv 42 14,mv 43 3,jj 44 (.indexAddr 1 (.t 42) (kk 9)),st 1 44 43] [4,14] (sr [mv 45 14,mv 46 4,jj 47 (.indexAddr 1 (.t 45) (kk 10)),st 1 47 46] [14] (sr [mv 48 14,mv 12 48,mx 13 kT] [12,13] .ret))))))))))
def F57:PFun:=pf 3 [.tmp 6,.tmp 7,.cell 8 true 4,.tmp 9] (sr [bx 4 1,bx 5 2,jj 6 (.mov (.c (.slice none 0 0))),mx 7 kF,jj 8 (.alloc [zN,zN,zN,zN]),mx 9 kF] [0,4,5,8] (.seq (sr [mv 18 0,la 19 4 5,cl 20 67 [18,19],jj 21 (.un .not (.t 20))] [0,4,5,8,21] (cs 21 (sr [mv 22 0,jj 23 (.build [zN,zN,zN,zN] []),mv 6 22,mx 7 kT,st 4 8 23,mx 9 kF] [6,7,8,9] .ret))) (.seq (.region (some [(216,[zN,zN])]) [fa 24 0 5,l1 25 24,mv 26 0,jj 27 (.indexAddr 1 (.t 26) (kk 6)),l1 28 27,jj 29 (.indexAddr 2 (.t 25) (.t 28)),la 30 2 29,jj 10 (.fill 216),st 2 10 30] [0,4,8,10]) (sr [jj 31 (.bslice 0 [] []),mv 32 0,jj 33 (.appendO 1 8 (.t 31) (.t 32)),mv 11 33] [4,8,10,11] (sr [mv 34 11,mv 35 11,jj 36 (.indexAddr 1 (.t 35) (kk 8)),l1 37 36,bk 38 .sub 37 1,jj 39 (.indexAddr 1 (.t 34) (kk 8)),st 1 39 38] [4,8,10,11] (sr [mv 40 11,mv 41 11,jj 42 (.indexAddr 1 (.t 41) (kk 6)),l1 43 42,bk 44 .add 43 1,jj 45 (.indexAddr 1 (.t 40) (kk 6)),st 1 45 44] [4,8,10,11] (sr [fa 46 0 10,l1 47 46,cl 48 68 [47],mv 12 48] [4,8,10,11,12] (sr [mv 49 11,mv 50 11,jj 51 (.indexAddr 1 (.t 50) (kk 7)),l1 52 51,mv 53 12,bn 54 .sub 52 53,jj 55 (.indexAddr 1 (.t 49) (kk 7)),st 1 55 54] [4,8,10,11,12] (sr [mv 56 11,jj 57 (.indexAddr 1 (.t 56) (kk 7)),l1 58 57,mv 13 58] [4,8,10,11,12,13] (sr [mx 14 (kk 0)] [4,8,10,11,12,13,14] (sr [mx 15 (kk 0)] [4,8,10,11,12,13,14,15] (.seq (sr [mv 59 12,bk 60 .gtr 59 0] [4,8,10,11,12,13,14,15,60] (cs 60 (rn [mv 61 11,mv 62 13,jj 63 (.bin .add (kk 16) (.t 62)),jj 64 (.indexAddr 1 (.t 61) (.t 63)),l1 65 64,mv 14 65] [4,8,10,11,12,13,14,15]))) (.seq (sr [mv 66 12,bk 67 .gtr 66 1] [4,8,10,11,13,14,15,67] (cs 67 (rn [mv 68 11,mv 69 13,jj 70 (.bin .add (kk 16) (.t 69)),bk 71 .add 70 1,jj 72 (.indexAddr 1 (.t 68) (.t 71)),l1 73 72,mv 15 73] [4,8,10,11,13,14,15]))) (sr [mx 16 (kk 0)] [4,8,10,11,13,14,15,16] (.seq (sr [fa 74 0 10,l1 75 74] [4,8,10,11,13,14,15,16,75] (.block 0 (sr [bk 82 .eql 75 1,mv 81 82] [4,8,10,11,13,14,15,16,75,81] (.cond (.t 81) (rn [fa 83 1 10,l1 84 83,mv 16 84] [8,10,11,13,16]) (sr [bk 86 .eql 75 2,mv 85 86] [4,8,10,11,13,14,15,16,75,85] (.cond (.t 85) (rn [mv 87 11,fa 88 1 10,l1 89 88,jj 90 (.bin .add (kk 32) (.t 89)),jj 91 (.indexAddr 1 (.t 87) (.t 90)),l1 92 91,mv 16 92] [8,10,11,13,16]) (sr [bk 94 .eql 75 6,mv 93 94] [4,8,10,11,13,14,15,16,75,93] (.cond (.t 93) (rn [mv 95 11,jj 96 (.indexAddr 1 (.t 95) (kk 9)),l1 97 96,mv 16 97] [8,10,11,13,16]) (sr [bk 99 .eql 75 7,mv 98 99] [4,8,10,11,13,14,15,16,75,98] (.cond (.t 98) (rn [mv 100 11,jj 101 (.indexAddr 1 (.t 100) (kk 10)),l1 102 101,mv 16 102] [8,10,11,13,16]) (sr [bk 104 .eql 75 8,mv 103 104] [4,8,10,11,13,14,15,16,75,103] (.cond (.t 103) (rn [mv 105 11,jj 106 (.indexAddr 1 (.t 105) (kk 0)),l1 107 106,mv 16 107] [8,10,11,13,16]) (sr [bk 109 .eql 75 4,mv 108 109] [4,8,10,11,13,14,15,16,75,108] (.cond (.t 108) (rn [mv 110 11,la 111 16 4,mv 112 14,fa 113 1 10,l1 114 113,cl 115 1000 [110,111,112,114],mv 16 115] [8,10,11,13,16]) (sr [bk 117 .eql 75 3,mv 116 117] [4,8,10,11,13,14,15,16,75,116] (.cond (.t 116) (rn [mv 118 11,fa 119 1 10,l1 120 119,jj 121 (.bin .add (kk 32) (.t 120)),mv 122 14,jj 123 (.indexAddr 1 (.t 118) (.t 121)),st 1 123 122] [8,10,11,13,16]) (sr [bk 125 .eql 75 5,mv 124 125] [4,8,10,11,13,14,15,16,75,124] (.cond (.t 124) (sr [mv 126 11,la 127 16 4,mv 128 14,fa 129 1 10,l1 130 129,mv 131 15,cl 132 69 [126,127,128,130,131],jj 133 (.build [zN,zN,zN,zN] []),mv 6 132,mx 7 kF,st 4 8 133,mx 9 kF] [6,7,8,9] .ret) (sr [bk 135 .eql 75 18,mv 134 135] [8,10,11,13,14,15,16,75,134] (.cond (.t 134) (rn [mv 136 11,fa 137 1 10,l1 138 137,jj 139 (.indexAddr 1 (.t 136) (kk 6)),st 1 139 138] [8,10,11,13,16]) (sr [bk 141 .eql 75 19,mv 140 141] [8,10,11,13,14,15,16,75,140] (.cond (.t 140) (sr [mv 142 14,bk 143 .eql 142 0] [8,10,11,13,16,143] (cs 143 (rn [mv 144 11,fa 145 1 10,l1 146 145,jj 147 (.indexAddr 1 (.t 144) (kk 6)),st 1 147 146] [8,10,11,13,16]))) (sr [bk 149 .eql 75 21,mv 148 149] [8,10,11,13,14,15,75,148] (.cond (.t 148) (sr [mv 150 11,jj 151 (.build [zN,zN,zN,zN] []),mv 6 150,mx 7 kT,st 4 8 151,mx 9 kF] [6,7,8,9] .ret) (sr [bk 153 .eql 75 20,mv 152 153] [8,10,11,13,14,15,152] (.cond (.t 152) (.seq (sr [mv 154 11,jj 155 (.indexAddr 1 (.t 154) (kk 11)),l1 156 155,bk 157 .geq 156 40] [8,11,14,15,157] (cs 157 (sr [mv 158 11,jj 159 (.build [zN,zN,zN,zN] []),mv 6 158,mx 7 kF,st 4 8 159,mx 9 kF] [6,7,8,9] .ret))) (.seq (.region (some [(223,[zN,zN,zN,zN])]) [mv 160 11,jj 161 (.indexAddr 1 (.t 160) (kk 0)),l1 162 161,mv 163 11,jj 164 (.indexAddr 1 (.t 163) (kk 11)),l1 165 164,mv 166 14,mv 167 15,jj 168 (.build [zN,zN,zN,zN] [(0,1,(.t 162)),(1,1,(.t 165)),(2,1,(.t 166)),(3,1,(.t 167))]),jj 17 (.fill 223),st 4 17 168] [8,11,14,15,17]) (.seq (.region (some []) [mv 169 11,mv 170 11,jj 171 (.indexAddr 1 (.t 170) (kk 12)),l1 172 171,mv 173 11,jj 174 (.indexAddr 1 (.t 173) (kk 0)),l1 175 174,mv 176 14,mv 177 15,jj 178 (.bslice 4 [zN,zN,zN,zN] [(0,1,(.t 172)),(1,1,(.t 175)),(2,1,(.t 176)),(3,1,(.t 177))]),jj 179 (.call 70 [(ks [101,102,102,101,99,116]),(.t 178)]),jj 180 (.bin .quo (.t 179) (.c (.int .u64 2))),jj 181 (.conv (.int .i64) (.t 180)),jj 182 (.indexAddr 1 (.t 169) (kk 12)),st 1 182 181] [8,11,17] [10]) (sr [mv 183 11,mv 184 11,jj 185 (.indexAddr 1 (.t 184) (kk 11)),l1 186 185,bk 187 .add 186 1,jj 188 (.indexAddr 1 (.t 183) (kk 11)),st 1 188 187] [8,11,17] (.seq (.region (some []) [mv 189 11,la 190 4 17,mv 6 189,mx 7 kF,st 4 8 190,mx 9 kT] [6,7,8,9]) .ret))))) (rn [fa 76 0 10,l1 77 76,mv 78 14,mv 79 15,cl 80 71 [77,78,79],mv 16 80] [8,10,11,13,16]))))))))))))))))))))))))))) (.seq (sr [fa 191 0 10,l1 192 191,cl 193 72 [192],bk 194 .eql 193 1] [8,11,13,16,194] (cs 194 (sr [mv 195 11,mv 196 13,jj 197 (.bin .add (kk 16) (.t 196)),mv 198 16,jj 199 (.indexAddr 1 (.t 195) (.t 197)),st 1 199 198] [8,11,13] (rn [mv 200 11,mv 201 13,bk 202 .add 201 1,jj 203 (.indexAddr 1 (.t 200) (kk 7)),st 1 203 202] [8,11])))) (sr [mv 204 11,jj 205 (.build [zN,zN,zN,zN] []),mv 6 204,mx 7 kF,st 4 8 205,mx 9 kF] [6,7,8,9] .ret)))))))))))))))))
def F61:PFun:=pf 1 [.tmp 2] (sr [mx 2 (kk 0)] [0] (.seq (sr [mv 3 0] [3] (cs 3 (sr [mx 2 (kk 1)] [2] .ret))) (sr [mx 2 (kk 0)] [2] .ret)))
def F67:PFun:=pf 2 [.tmp 4] (sr [bx 3 1,mx 4 kF] [0,3] (.seq (.seq (.region (some []) [mv 7 0,jj 8 (.indexAddr 1 (.t 7) (kk 8)),l1 9 8,bk 10 .lss 9 1,mv 11 10,jf 12 11 (.mov (.t 0)),jf 13 11 (.indexAddr 1 (.t 12) (kk 6)),jf 14 11 (.load false 1 (.t 13)),jf 15 11 (.bin .lss (.t 14) (kk 0)),jj 16 (.pick (.t 11) kT (.t 15)),mv 17 16,jf 18 17 (.mov (.t 0)),jf 19 17 (.indexAddr 1 (.t 18) (kk 6)),jf 20 17 (.load false 1 (.t 19)),jf 21 17 (.fieldAddr 0 (.t 3)),jf 22 17 (.load false 1 (.t 21)),jf 23 17 (.len .sl (.t 22)),jf 24 17 (.bin .geq (.t 20) (.t 23)),jj 25 (.pick (.t 17) kT (.t 24))] [0,3,25]) (cs 25 (sr [mx 4 kF] [4] .ret))) (.seq (.region (some [(104,[zN,zN])]) [fa 26 0 3,l1 27 26,mv 28 0,jj 29 (.indexAddr 1 (.t 28) (kk 6)),l1 30 29,jj 31 (.indexAddr 2 (.t 27) (.t 30)),la 32 2 31,jj 5 (.fill 104),st 2 5 32] [0,5]) (sr [fa 33 0 5,l1 34 33,cl 35 68 [34],mv 6 35] [0,5,6] (.seq (.seq (.region (some []) [mv 36 6,bk 37 .lss 36 0,mv 38 37,jf 39 38 (.mov (.t 0)),jf 40 38 (.indexAddr 1 (.t 39) (kk 7)),jf 41 38 (.load false 1 (.t 40)),jf 42 38 (.mov (.t 6)),jf 43 38 (.bin .lss (.t 41) (.t 42)),jj 44 (.pick (.t 38) kT (.t 43)),mv 45 44,jf 46 45 (.mov (.t 0)),jf 47 45 (.indexAddr 1 (.t 46) (kk 7)),jf 48 45 (.load false 1 (.t 47)),jf 49 45 (.bin .gtr (.t 48) (kk 16)),jj 50 (.pick (.t 45) kT (.t 49)),mv 51 50,jf 52 51 (.mov (.t 0)),jf 53 51 (.indexAddr 1 (.t 52) (kk 7)),⟨some 54,.load false 1 (.t 53),some (51,false),[23]⟩,jf 55 51 (.mov (.t 6)),jf 56 51 (.bin .sub (.t 54) (.t 55)),jf 57 51 (.fieldAddr 0 (.t 5)),jf 58 51 (.load false 1 (.t 57)),jf 59 51 (.call 72 [(.t 58)]),jf 60 51 (.bin .add (.t 56) (.t 59)),jf 61 51 (.bin .gtr (.t 60) (kk 16)),jj 62 (.pick (.t 51) kT (.t 61))] [5,62] [23]) (cs 62 (sr [mx 4 kF] [4] .ret))) (.seq (sr [fa 63 0 5,l1 64 63,bk 65 .eql 64 2,mv 66 65,jf 67 66 (.fieldAddr 0 (.t 5)),jf 68 66 (.load false 1 (.t 67)),jf 69 66 (.bin .eql (.t 68) (kk 3)),jj 70 (.pick (.t 66) kT (.t 69)),mv 71 70,jt 72 71 (.fieldAddr 1 (.t 5)),jt 73 71 (.load false 1 (.t 72)),jt 74 71 (.bin .lss (.t 73) (kk 0)),jt 75 71 (.mov (.t 74)),jf 76 75 (.fieldAddr 1 (.t 5)),jf 77 75 (.load false 1 (.t 76)),jf 78 75 (.bin .gtr (.t 77) (kk 15)),jt 79 71 (.pick (.t 75) kT (.t 78)),jj 80 (.pick (.t 71) (.t 79) kF)] [5,80] (cs 80 (sr [mx 4 kF] [4] .ret))) (sr [fa 81 0 5,l1 82 81,bk 83 .neq 82 4,mv 84 83,jt 85 84 (.fieldAddr 0 (.t 5)),jt 86 84 (.load false 1 (.t 85)),jt 87 84 (.bin .neq (.t 86) (kk 5)),jj 88 (.pick (.t 84) (.t 87) kF),mv 89 88,jf 90 89 (.fieldAddr 1 (.t 5)),jf 91 89 (.load false 1 (.t 90)),jf 92 89 (.bin .geq (.t 91) (kk 0)),jf 93 89 (.mov (.t 92)),jt 94 93 (.fieldAddr 1 (.t 5)),jt 95 93 (.load false 1 (.t 94)),jt 96 93 (.bin .leq (.t 95) (kk 7)),jf 97 89 (.pick (.t 93) (.t 96) kF),jj 98 (.pick (.t 89) kT (.t 97)),mv 4 98] [4] .ret)))))))
def F68:PFun:=pf 1 [.tmp 2] (sr [mx 2 (kk 0)] [0] (.seq (sr [mv 3 0] [3] (.block 0 (.seq (sr [bk 5 .eql 3 1,mv 4 5] [3,4] (.cond (.t 4) .skip (sr [bk 6 .eql 3 2,mv 4 6] [3,4] (.cond (.t 4) .skip (sr [bk 7 .eql 3 6,mv 4 7] [3,4] (.cond (.t 4) .skip (sr [bk 8 .eql 3 7,mv 4 8] [3,4] (.cond (.t 4) .skip (sr [bk 9 .eql 3 8,mv 4 9] [3,4] (.cond (.t 4) .skip (sr [bk 10 .eql 3 18,mv 4 10] [3,4] (.cond (.t 4) .skip (rn [bk 11 .eql 3 21,mv 4 11] [3,4]))))))))))))) (.cond (.t 4) (sr [mx 2 (kk 0)] [2] .ret) (.seq (sr [bk 13 .eql 3 3,mv 12 13] [3,12] (.cond (.t 12) .skip (sr [bk 14 .eql 3 4,mv 12 14] [3,12] (.cond (.t 12) .skip (sr [bk 15 .eql 3 13,mv 12 15] [3,12] (.cond (.t 12) .skip (sr [bk 16 .eql 3 17,mv 12 16] [3,12] (.cond (.t 12) .skip (rn [bk 17 .eql 3 19,mv 12 17] [3,12]))))))))) (.cond (.t 12) (sr [mx 2 (kk 1)] [2] .ret) (.seq (sr [bk 19 .eql 3 5,mv 18 19] [3,18] (.cond (.t 18) .skip (sr [bk 20 .eql 3 9,mv 18 20] [3,18] (.cond (.t 18) .skip (sr [bk 21 .eql 3 10,mv 18 21] [3,18] (.cond (.t 18) .skip (sr [bk 22 .eql 3 11,mv 18 22] [3,18] (.cond (.t 18) .skip (sr [bk 23 .eql 3 12,mv 18 23] [3,18] (.cond (.t 18) .skip (sr [bk 24 .eql 3 14,mv 18 24] [3,18] (.cond (.t 18) .skip (sr [bk 25 .eql 3 15,mv 18 25] [3,18] (.cond (.t 18) .skip (sr [bk 26 .eql 3 16,mv 18 26] [3,18] (.cond (.t 18) .skip (rn [bk 27 .eql 3 20,mv 18 27] [18]))))))))))))))))) (cs 18 (sr [mx 2 (kk 2)] [2] .ret))))))))) (sr [mx 2 (kk (-1))] [2] .ret)))
def F69:PFun:=pf 5 [.tmp 10] (sr [bx 6 1,jj 10 (.mov (.c (.slice none 0 0)))] [0,2,3,4,6] (sr [la 13 16 6,mv 14 2,cl 15 66 [13,14],mv 11 15] [0,3,4,11] (.seq (sr [mv 16 11,bk 17 .lss 16 0] [0,3,4,11,17] (cs 17 (sr [mv 18 0,mv 10 18] [10] .ret))) (.seq (sr [mv 19 3,bk 20 .lss 19 2] [0,3,4,11,20] (.cond (.t 20) (rn [mv 21 4,jj 22 (.call 78 [(.t 21),(kk (-1048576)),(kk 1048576)]),mv 4 22] [0,3,4,11]) (sr [mv 23 3,bk 24 .lss 23 4] [0,3,4,11,24] (cs 24 (rn [mv 25 4,jj 26 (.call 78 [(.t 25),(kk (-16384)),(kk 16384)]),mv 4 26] [0,3,4,11]))))) (sr [jj 27 (.bslice 0 [] []),mv 28 0,jj 29 (.appendO 1 8 (.t 27) (.t 28)),mv 12 29] [3,4,11,12] (sr [mv 30 12,mv 31 11,mv 32 3,bn 33 .add 31 32,mv 34 4,jj 35 (.indexAddr 1 (.t 30) (.t 33)),st 1 35 34] [12] (sr [mv 36 12,mv 10 36] [10] .ret)))))))
def F71:PFun:=pf 3 [.tmp 6] (sr [mx 6 (kk 0)] [0,1,2] (.seq (sr [mv 7 0] [1,2,7] (.block 0 (sr [bk 9 .eql 7 9,mv 8 9] [1,2,7,8] (.cond (.t 8) (sr [mv 10 1,mv 11 2,bn 12 .add 10 11,cl 13 81 [12],mv 6 13] [6] .ret) (sr [bk 15 .eql 7 10,mv 14 15] [1,2,7,14] (.cond (.t 14) (sr [mv 16 1,mv 17 2,bn 18 .sub 16 17,cl 19 81 [18],mv 6 19] [6] .ret) (sr [bk 21 .eql 7 11,mv 20 21] [1,2,7,20] (.cond (.t 20) (sr [mv 22 1,mv 23 2,bn 24 .mul 22 23,cl 25 81 [24],mv 6 25] [6] .ret) (sr [bk 27 .eql 7 12,mv 26 27] [1,2,7,26] (.cond (.t 26) (.seq (sr [mv 28 2,bk 29 .eql 28 0] [1,2,29] (cs 29 (sr [mx 6 (kk 0)] [6] .ret))) (sr [mv 30 1,mv 31 2,bn 32 .quo 30 31,cl 33 81 [32],mv 6 33] [6] .ret)) (sr [bk 35 .eql 7 13,mv 34 35] [1,2,7,34] (.cond (.t 34) (sr [mv 36 1,jj 37 (.un .neg (.t 36)),cl 38 81 [37],mv 6 38] [6] .ret) (sr [bk 40 .eql 7 14,mv 39 40] [1,2,7,39] (.cond (.t 39) (sr [mv 41 1,mv 42 2,bn 43 .lss 41 42,cl 44 61 [43],mv 6 44] [6] .ret) (sr [bk 46 .eql 7 15,mv 45 46] [1,2,7,45] (.cond (.t 45) (sr [mv 47 1,mv 48 2,bn 49 .leq 47 48,cl 50 61 [49],mv 6 50] [6] .ret) (sr [bk 52 .eql 7 16,mv 51 52] [1,2,51] (cs 51 (sr [mv 53 1,mv 54 2,bn 55 .eql 53 54,cl 56 61 [55],mv 6 56] [6] .ret))))))))))))))))))) (sr [mv 57 1,bk 58 .eql 57 0,cl 59 61 [58],mv 6 59] [6] .ret)))
def F72:PFun:=pf 1 [.tmp 2] (sr [mx 2 (kk 0)] [0] (.seq (sr [mv 3 0] [3] (.block 0 (.seq (sr [bk 5 .eql 3 3,mv 4 5] [3,4] (.cond (.t 4) .skip (sr [bk 6 .eql 3 5,mv 4 6] [3,4] (.cond (.t 4) .skip (sr [bk 7 .eql 3 18,mv 4 7] [3,4] (.cond (.t 4) .skip (sr [bk 8 .eql 3 19,mv 4 8] [3,4] (.cond (.t 4) .skip (sr [bk 9 .eql 3 20,mv 4 9] [3,4] (.cond (.t 4) .skip (rn [bk 10 .eql 3 21,mv 4 10] [4]))))))))))) (cs 4 (sr [mx 2 (kk 0)] [2] .ret))))) (sr [mx 2 (kk 1)] [2] .ret)))
def F81:PFun:=pf 1 [.tmp 2] (sr [mx 2 (kk 0)] [0] (sr [mv 3 0,jj 4 (.call 78 [(.t 3),(kk (-2147483647)),(kk 2147483647)]),mv 2 4] [2] .ret))
def F1000:PFun:=pf 4 [.tmp 8] (sr [bx 5 1,mx 8 (kk 0)] [0,2,3,5] (sr [la 10 16 5,mv 11 2,cl 12 66 [10,11],mv 9 12] [0,3,9] (.seq (sr [mv 13 9,bk 14 .lss 13 0] [0,3,9,14] (cs 14 (sr [mx 8 (kk 0)] [8] .ret))) (sr [mv 15 0,mv 16 9,mv 17 3,bn 18 .add 16 17,jj 19 (.indexAddr 1 (.t 15) (.t 18)),l1 20 19,mv 8 20] [8] .ret))))
end Go.Pm.F
end
section
namespace Go.Pm.F
variable(C:Task->Option Res)(q:Nat)(fr:Fr)(σ : S)
@[simp] def F70l0x:PC:=(.seq (sr [mv 12 7,mv 13 6,ls 14 13,bn 15 .lss 12 14] [0,1,5,6,7,15] (.cond (.t 15) .skip (.exit 0))) (.seq (.block 1 (rn [mv 18 5,mv 19 6,mv 20 7,jj 21 (.indexAddr 1 (.t 19) (.t 20)),l1 22 21,cl 23 80 [18,22],mv 5 23] [0,1,5,6,7])) (rn [mv 16 7,bk 17 .add 16 1,mv 7 17] [0,1,5,6,7])))
def F70l0:PC:=F70l0x
theorem qp1:run C q F70l0 fr σ = run C q F70l0x fr σ := rfl
@[simp] def F70l1x:PC:=(.seq (sr [mv 34 8,mv 35 1,ls 36 35,bn 37 .lss 34 36] [1,5,8,37] (.cond (.t 37) .skip (.exit 2))) (.seq (.block 3 (rn [mv 40 5,mv 41 1,mv 42 8,jj 43 (.indexAddr 1 (.t 41) (.t 42)),l1 44 43,jj 45 (.conv (.int .u64) (.t 44)),cl 46 80 [40,45],mv 5 46] [1,5,8])) (rn [mv 38 8,bk 39 .add 38 1,mv 8 39] [1,5,8])))
def F70l1:PC:=F70l1x
theorem qp2:run C q F70l1 fr σ = run C q F70l1x fr σ := rfl
def F70:PFun:=pf 2 [.tmp 4] (sr [jj 4 (.mov (.c (.int .u64 0)))] [0,1] (sr [jj 5 (.mov (.c (.int .u64 0)))] [0,1,5] (sr [mv 9 0,jj 10 (.bytes (.t 9)),cl 11 79 [10],mv 6 11] [0,1,5,6] (.seq (sr [mx 7 (kk 0)] [0,1,5,6,7] (.block 0 (.loop F70l0))) (sr [mv 24 5,mv 25 0,lz 26 25,jj 27 (.conv (.int .u64) (.t 26)),cl 28 80 [24,27],mv 5 28] [1,5] (sr [mv 29 5,mv 30 1,ls 31 30,jj 32 (.conv (.int .u64) (.t 31)),cl 33 80 [29,32],mv 5 33] [1,5] (.seq (sr [mx 8 (kk 0)] [1,5,8] (.block 2 (.loop F70l1))) (sr [mv 47 5,jj 48 (.call 80 [(.t 47),(.c (.int .u64 0))]),mv 4 48] [4] .ret))))))))
@[simp] def F79l1x:PC:=(.seq (sr [mv 19 6,mv 20 4,bn 21 .geq 19 20] [0,3,4,5,6,21] (.cond (.t 21) .skip (.exit 2))) (.seq (.block 3 (rn [mv 24 5,jj 25 (.bin .mul (.c (.int .u64 256)) (.t 24)),mv 26 0,mv 27 6,jj 28 (.indexAddr 1 (.t 26) (.t 27)),l1 29 28,jj 30 (.conv (.int .u64) (.t 29)),bn 31 .add 25 30,mv 5 31] [0,3,4,5,6])) (rn [mv 22 6,bk 23 .sub 22 1,mv 6 23] [0,3,4,5,6])))
def F79l1:PC:=F79l1x
@[simp] def F79l0x:PC:=(.seq (sr [mv 7 4,mv 8 0,ls 9 8,bn 10 .lss 7 9] [0,3,4,10] (.cond (.t 10) .skip (.exit 0))) (.seq (.block 1 (sr [jj 5 (.mov (.c (.int .u64 0)))] [0,3,4,5] (.seq (sr [mv 13 4,bk 14 .add 13 8,mv 15 0,ls 16 15,jj 17 (.min [(.t 14),(.t 16)]),bk 18 .sub 17 1,mv 6 18] [0,3,4,5,6] (.block 2 (.loop F79l1))) (rn [mv 32 3,mv 33 5,jj 34 (.bslice 1 [(.lit (.int .u64 0))] [(0,1,(.t 33))]),jj 35 (.append 1 8 (.t 32) (.t 34)),mv 3 35] [0,3,4])))) (rn [mv 11 4,bk 12 .add 11 8,mv 4 12] [0,3,4])))
def F79l0:PC:=F79l0x
def F79:PFun:=pf 1 [.tmp 2] (sr [jj 2 (.mov (.c (.slice none 0 0)))] [0] (sr [jj 3 (.mov (.c (.slice none 0 0)))] [0,3] (.seq (sr [mx 4 (kk 0)] [0,3,4] (.block 0 (.loop F79l0))) (sr [mv 36 3,mv 2 36] [2] .ret))))
def F80:PFun:=pf 2 [.tmp 4] (sr [jj 4 (.mov (.c (.int .u64 0)))] [0,1] (sr [mv 6 0,mv 7 1,bn 8 .xor 6 7,jj 9 (.bin .mul (.t 8) (.c (.int .u64 11400714819323198485))),mv 5 9] [5] (sr [mv 10 5,mv 11 5,jj 12 (.bin .quo (.t 11) (.c (.int .u64 4294967296))),bn 13 .xor 10 12,mv 4 13] [4] .ret)))
@[simp] def F109l0x:PC:=(sr [bn 15 .lss 14 13] [5,12,13,14,15] (.seq (.cond (.t 15) .skip (.exit 0)) (.seq (.block 1 (sr [jj 16 (.indexAddr 1 (.t 12) (.t 14)),l1 17 16,mv 7 17] [5,7,12,13,14] (rn [mv 18 5,mv 19 7,jj 20 (.conv (.int .u64) (.t 19)),cl 21 111 [18,20],mv 5 21] [5,12,13,14]))) (rn [bk 22 .add 14 1,mv 14 22] [5,12,13,14]))))
def F109l0:PC:=F109l0x
theorem qoj:run C q F109l0 fr σ = run C q F109l0x fr σ := rfl
def F109:PFun:=pf 2 [.tmp 4] (sr [jj 4 (.mov (.c (.int .u64 0)))] [0,1] (sr [mv 8 0,mv 9 1,ls 10 9,cl 11 110 [8,10],mv 5 11] [1,5] (.seq (sr [mv 12 1,ls 13 12,mx 14 (kk 0)] [5,12,13,14] (.block 0 (.loop F109l0))) (sr [mv 23 5,jj 24 (.call 111 [(.t 23),(.c (.int .u64 0))]),mv 4 24] [4] .ret))))
@[simp] def F110a0x:PC:=(rn [mv 6 9] [5,6])
def F110a0:PC:=F110a0x
@[simp] def F110b0x:PC:=(.block 1 (rn [l1 10 5,mv 11 6,cl 12 111 [10,11],st 1 5 12] []))
def F110b0:PC:=F110b0x
def F110:PFun:=pf 2 [.tmp 4] (sr [jj 4 (.mov (.c (.int .u64 0)))] [0,1] (sr [jj 5 (.alloc [(.lit (.int .u64 0))])] [0,1,5] (.seq (sr [mv 7 0,cl 8 112 [7]] [0,1,5,8] (.block 0 (.range (.t 8) [9] F110a0 F110b0))) (sr [l1 13 5,mv 14 0,lz 15 14,jj 16 (.conv (.int .u64) (.t 15)),cl 17 111 [13,16],mv 18 1,jj 19 (.conv (.int .u64) (.t 18)),cl 20 111 [17,19],mv 4 20] [4] .ret))))
def F111:PFun:=pf 2 [.tmp 4] (sr [jj 4 (.mov (.c (.int .u64 0)))] [0,1] (sr [mv 6 0,mv 7 1,bn 8 .xor 6 7,jj 9 (.bin .mul (.t 8) (.c (.int .u64 11400714819323198485))),mv 5 9] [5] (sr [mv 10 5,mv 11 5,jj 12 (.bin .shr (.t 11) (.c (.int .u64 32))),bn 13 .xor 10 12,mv 4 13] [4] .ret)))
def F112:PFun:=pf 1 [.tmp 2] (sr [bx 1 0,jj 2 (.mov (.c .nilFunc))] [1] (sr [jj 3 (.mkfn 113 [] [(.t 1)]),mv 2 3] [2] .ret))
@[simp] def F113l1x:PC:=(.seq (sr [mv 12 5,bk 13 .lss 12 8,mv 14 13,jt 15 14 (.mov (.t 3)),jt 16 14 (.mov (.t 5)),jt 17 14 (.bin .add (.t 15) (.t 16)),jt 18 14 (.load false 1 (.t 1)),jt 19 14 (.len .str (.t 18)),jt 20 14 (.bin .lss (.t 17) (.t 19)),jj 21 (.pick (.t 14) (.t 20) kF)] [0,1,3,4,5,21] (.cond (.t 21) .skip (.exit 2))) (.seq (.block 3 (rn [mv 24 4,l1 25 1,mv 26 3,mv 27 5,bn 28 .add 26 27,jj 29 (.indexS (.t 25) (.t 28)),jj 30 (.conv (.int .u64) (.t 29)),mv 31 5,jj 32 (.bin .mul (kk 8) (.t 31)),bn 33 .shl 30 32,bn 34 .or 24 33,mv 4 34] [0,1,3,4,5])) (rn [mv 22 5,bk 23 .add 22 1,mv 5 23] [0,1,3,4,5])))
def F113l1:PC:=F113l1x
@[simp] def F113l0x:PC:=(.seq (sr [mv 6 3,l1 7 1,lz 8 7,bn 9 .lss 6 8] [0,1,3,9] (.cond (.t 9) .skip (.exit 0))) (.seq (.block 1 (sr [jj 4 (.mov (.c (.int .u64 0)))] [0,1,3,4] (.seq (sr [mx 5 (kk 0)] [0,1,3,4,5] (.block 2 (.loop F113l1))) (sr [mv 35 0,mv 36 4,jj 37 (.callv (.t 35) [(.t 36)]),jj 38 (.un .not (.t 37))] [0,1,3,38] (cs 38 .ret))))) (rn [mv 10 3,bk 11 .add 10 8,mv 3 11] [0,1,3])))
def F113l0:PC:=F113l0x
def F113:PFun:=pf 2 [] (sr [mx 3 (kk 0)] [0,1,3] (.block 0 (.loop F113l0)))
end Go.Pm.F
end
section
namespace Go.Pm.F
variable(C:Task->Option Res)(q:Nat)(fr:Fr)(σ : S)
@[simp] def F46l0x:PC:=(sr [bn 13 .lss 12 11] [0,3,11,12,13] (.seq (.cond (.t 13) .skip (.exit 0)) (.seq (.block 1 (sr [mv 14 12,mv 4 14] [0,3,4,11,12] (.region (some []) [mv 15 3,nc 16 15,fa 17 0 16,l1 18 17,mv 19 4,mv 20 0,mv 21 4,jj 22 (.indexAddr 1 (.t 20) (.t 21)),l1 23 22,jj 24 (.indexAddr 1 (.t 18) (.t 19)),st 1 24 23] [0,3,11,12]))) (rn [bk 25 .add 12 1,mv 12 25] [0,3,11,12]))))
def F46l0:PC:=F46l0x
theorem qlh:run C q F46l0 fr σ = run C q F46l0x fr σ := rfl
def F46:PFun:=pf 1 [.tmp 2] (sr [jj 2 (.mov (.c (.pointer none)))] [0] (sr [mv 5 0,ls 6 5,jj 7 (.mkslice false [zN] 8 (.t 6) (.t 6)),jj 8 (.build [sN,sN,zN] [(0,1,(.t 7))]),bx 9 8,mv 3 9] [0,3] (.seq (sr [mv 10 0,ls 11 10,mx 12 (kk 0)] [0,3,11,12] (.block 0 (.loop F46l0))) (sr [mv 26 3,mv 2 26] [2] .ret))))
def F51:PFun:=pf 2 [.tmp 4] (sr [mx 4 (kk 0)] [0,1] (.seq (sr [mv 5 0,mv 6 1,cl 7 62 [5,6],jj 8 (.un .not (.t 7))] [0,1,8] (cs 8 (sr [mx 4 (kk 0)] [4] .ret))) (sr [mv 9 0,nc 10 9,fa 11 0 10,l1 12 11,mv 13 1,jj 14 (.indexAddr 1 (.t 12) (.t 13)),l1 15 14,mv 4 15] [4] .ret)))
@[simp] def F59l0x:PC:=(sr [bn 11 .lss 10 9] [0,3,9,10,11] (.seq (.cond (.t 11) .skip (.exit 0)) (.seq (.block 1 (sr [mv 12 10,mv 4 12] [0,3,4,9,10] (rn [mv 13 3,mv 14 4,mv 15 0,mv 16 4,cl 17 51 [15,16],jj 18 (.indexAddr 1 (.t 13) (.t 14)),st 1 18 17] [0,3,9,10]))) (rn [bk 19 .add 10 1,mv 10 19] [0,3,9,10]))))
def F59l0:PC:=F59l0x
theorem qgt:run C q F59l0 fr σ = run C q F59l0x fr σ := rfl
def F59:PFun:=pf 1 [.tmp 2] (sr [jj 2 (.mov (.c (.slice none 0 0)))] [0] (sr [mv 5 0,cl 6 73 [5],jj 7 (.mkslice false [zN] 8 (.t 6) (.t 6)),mv 3 7] [0,3] (.seq (sr [mv 8 0,cl 9 73 [8],mx 10 (kk 0)] [0,3,9,10] (.block 0 (.loop F59l0))) (sr [mv 20 3,mv 2 20] [2] .ret))))
def F62:PFun:=pf 2 [.tmp 4] (sr [mx 4 kF] [0,1] (sr [mv 5 1,jj 6 (.bin .leq (kk 0) (.t 5)),mv 7 6,jt 8 7 (.mov (.t 1)),jt 9 7 (.mov (.t 0)),jt 10 7 (.nilchk (.t 9)),jt 11 7 (.fieldAddr 0 (.t 10)),jt 12 7 (.load false 1 (.t 11)),jt 13 7 (.len .sl (.t 12)),jt 14 7 (.bin .lss (.t 8) (.t 13)),jj 15 (.pick (.t 7) (.t 14) kF),mv 4 15] [4] .ret))
def F73:PFun:=pf 1 [.tmp 2] (sr [mx 2 (kk 0)] [0] (sr [mv 3 0,nc 4 3,fa 5 0 4,l1 6 5,ls 7 6,mv 2 7] [2] .ret))
def F114:PFun:=pf 3 [] (.seq (sr [mv 6 0,mv 7 1,cl 8 62 [6,7],jj 9 (.un .not (.t 8))] [0,1,2,9] (cs 9 .ret)) (.seq (.region (some []) [mv 10 0,mv 11 0,nc 12 11,fa 13 1 12,l1 14 13,mv 15 1,mv 16 0,nc 17 16,fa 18 0 17,l1 19 18,mv 20 1,jj 21 (.indexAddr 1 (.t 19) (.t 20)),l1 22 21,jj 23 (.build [zN,zN] [(0,1,(.t 15)),(1,1,(.t 22))]),jj 24 (.bslice 1 [zN,zN] [(0,2,(.t 23))]),jj 25 (.append 2 16 (.t 14) (.t 24)),nc 26 10,fa 27 1 26,st 1 27 25] [0,1,2]) (rn [mv 28 0,nc 29 28,fa 30 0 29,l1 31 30,mv 32 1,mv 33 2,jj 34 (.indexAddr 1 (.t 31) (.t 32)),st 1 34 33] [])))
end Go.Pm.F
end
section
namespace Go.Pm.F
variable(C:Task->Option Res)(q:Nat)(fr:Fr)(σ : S)
def F108:PFun:=pf 3 [.tmp 6] (sr [mx 6 (kk 0)] [0,1,2] (.seq (.block 0 (sr [mv 8 0,mv 9 1,bn 10 .lss 8 9,mv 7 10] [0,1,2,7] (.cond (.t 7) (sr [mv 11 1,mv 6 11] [6] .ret) (sr [mv 13 0,mv 14 2,bn 15 .gtr 13 14,mv 12 15] [0,2,12] (cs 12 (sr [mv 16 2,mv 6 16] [6] .ret)))))) (sr [mv 17 0,mv 6 17] [6] .ret)))
@[simp] def F329l0x:PC:=(.seq (sr [mv 9 5,mv 10 6,bn 11 .lss 9 10] [1,5,6,11] (.cond (.t 11) .skip (.exit 0))) (.block 1 (sr [mv 12 5,mv 13 6,bn 14 .add 12 13,jj 15 (.conv (.int .u64) (.t 14)),jj 16 (.bin .shr (.t 15) (.c (.int .u64 1))),jj 17 (.conv (.int .i64) (.t 16)),mv 7 17] [1,5,6,7] (sr [mv 18 1,mv 19 7,jj 20 (.callv (.t 18) [(.t 19)]),jj 21 (.un .not (.t 20))] [1,5,6,7,21] (.cond (.t 21) (rn [mv 22 7,bk 23 .add 22 1,mv 5 23] [1,5,6]) (rn [mv 24 7,mv 6 24] [1,5,6]))))))
def F329l0:PC:=F329l0x
def F329:PFun:=pf 2 [.tmp 4] (sr [mx 4 (kk 0)] [0,1] (sr [mv 8 0,mx 5 (kk 0),mv 6 8] [1,5,6] (.seq (.block 0 (.loop F329l0)) (sr [mv 25 5,mv 4 25] [4] .ret))))
end Go.Pm.F
end
section
namespace Go.Pm.F
variable(C:Task->Option Res)(q:Nat)(fr:Fr)(σ : S)
@[simp] def F50l0x:PC:=(.seq (sr [mv 28 4,bk 29 .lss 28 3] [1,2,3,4,29] (.cond (.t 29) .skip (.exit 0))) (.seq (.block 1 (sr [mv 33 2,jj 34 (.mkif 0 (.t 33)),la 35 16 1,la 36 4 3,cl 37 52 [34,35,36],mv 32 37,ex 38 32 0,ex 39 32 1,ex 40 32 2,jj 6 (.alloc [zN,zN,zN,zN]),mv 5 38,st 4 6 39,mv 7 40] [1,2,3,4,5] (sr [mv 41 5] [1,2,3,4,41] (cs 41 (sr [mx 0 kF] [0] .ret))))) (rn [mv 30 4,bk 31 .add 30 1,mv 4 31] [1,2,3,4])))
def F50l0:PC:=F50l0x
def F50:PFun:=pf 0 [.tmp 0] (sr [mx 0 kF] [] (sr [jj 11 (.call 45 [(.c (.slice none 0 0))]),jj 1 (.alloc [zN,sN,zN,zN,zN,zN,sN,sN,zN,zN,zN,zN,zN,zN,zN,zN]),st 16 1 11] [1] (sr [la 12 16 1,cl 13 55 [12],cl 14 46 [13],mv 2 14] [1,2] (sr [jj 15 (.build [zN,zN] [(0,1,(kk 1)),(1,1,(kk 2))]),jj 16 (.build [zN,zN] [(0,1,(kk 1)),(1,1,(kk 5))]),jj 17 (.build [zN,zN] [(0,1,(kk 10))]),jj 18 (.build [zN,zN] [(0,1,(kk 21))]),jj 19 (.bslice 4 [zN,zN,zN,zN,zN,zN,zN,zN] [(0,2,(.t 15)),(2,2,(.t 16)),(4,2,(.t 17)),(6,2,(.t 18))]),jj 20 (.build [sN,zN,zN,zN] [(0,1,(.t 19))]),jj 3 (.alloc [sN,zN,zN,zN]),st 4 3 20] [1,2,3] (.seq (sr [mv 21 2,jj 22 (.isnil true false (.t 21))] [1,2,3,22] (cs 22 (sr [mx 0 kF] [0] .ret))) (.seq (sr [mv 23 2,jj 24 (.mkif 0 (.t 23)),la 25 4 3,jj 26 (.call 49 [(.t 24),(.t 25),(kk 1),(kk 3),(kk 4),(kk 9)]),jj 27 (.un .not (.t 26))] [1,2,3,27] (cs 27 (sr [mx 0 kF] [0] .ret))) (.seq (sr [mx 4 (kk 0)] [1,2,3,4] (.block 0 (.loop F50l0))) (sr [mv 43 2,jj 44 (.mkif 0 (.t 43)),la 45 16 1,la 46 4 3,cl 47 52 [44,45,46],mv 42 47,ex 48 42 0,ex 49 42 1,ex 50 42 2,jj 9 (.alloc [zN,zN,zN,zN]),mv 8 48,st 4 9 49,mv 10 50] [2,8] (sr [mv 51 8,mv 52 51,jt 53 52 (.mov (.t 2)),jt 54 52 (.call 51 [(.t 53),(kk 16)]),jt 55 52 (.bin .eql (.t 54) (kk (-3))),jj 56 (.pick (.t 52) (.t 55) kF),mv 57 56,jt 58 57 (.mov (.t 2)),jt 59 57 (.call 51 [(.t 58),(kk 7)]),jt 60 57 (.bin .eql (.t 59) (kk 1)),jj 61 (.pick (.t 57) (.t 60) kF),mv 62 61,jt 63 62 (.mov (.t 2)),jt 64 62 (.call 51 [(.t 63),(kk 8)]),jt 65 62 (.bin .eql (.t 64) (kk 5)),jj 66 (.pick (.t 62) (.t 65) kF),mv 0 66] [0] .ret)))))))))
@[simp] def F338l1x:PC:=(.seq (sr [mv 80 24,mv 81 21,bn 82 .leq 80 81,mv 83 82,jt 84 83 (.mov (.t 23)),jj 85 (.pick (.t 83) (.t 84) kF)] [3,4,5,13,14,16,17,18,21,23,24,85] (.cond (.t 85) .skip (.exit 2))) (.seq (.block 3 (sr [mv 89 16,la 90 16 13,la 91 4 14,cl 92 57 [89,90,91],mv 88 92,ex 93 88 0,ex 94 88 1,ex 95 88 2,ex 96 88 3,jj 27 (.alloc [zN,zN,zN,zN]),mv 25 93,mv 26 94,st 4 27 95,mv 28 96] [3,4,5,13,14,17,18,21,23,24,25,26,27,28] (sr [mv 97 25,mv 16 97] [3,4,5,13,14,16,17,18,21,23,24,26,27,28] (sr [mv 99 17,jj 100 (.mkif 0 (.t 99)),la 101 16 13,la 102 4 14,cl 103 52 [100,101,102],mv 98 103,ex 104 98 0,ex 105 98 1,ex 106 98 2,jj 30 (.alloc [zN,zN,zN,zN]),mv 29 104,st 4 30 105,mv 31 106] [3,4,5,13,14,16,17,18,21,23,24,26,27,28,29,30,31] (.seq (sr [mv 107 29,mv 108 26,jj 109 (.eqb true (.t 107) (.t 108)),mv 110 109,jf 111 110 (.load true 4 (.t 30)),jf 112 110 (.load true 4 (.t 27)),jf 113 110 (.eqa true [.i,.i,.i,.i] (.t 111) (.t 112)),jj 114 (.pick (.t 110) kT (.t 113)),mv 115 114,jf 116 115 (.mov (.t 31)),jf 117 115 (.mov (.t 28)),jf 118 115 (.eqb true (.t 116) (.t 117)),jj 119 (.pick (.t 115) kT (.t 118))] [3,4,5,13,14,16,17,18,21,23,24,26,119] (cs 119 (sr [mx 12 kF] [12] .ret))) (sr [mv 120 26] [3,4,5,13,14,16,17,18,21,23,24,120] (cs 120 (.exit 2)))))))) (rn [mv 86 24,bk 87 .add 86 1,mv 24 87] [3,4,5,13,14,16,17,18,21,23,24])))
def F338l1:PC:=F338l1x
theorem qfy:run C q F338l1 fr σ = run C q F338l1x fr σ := rfl
@[simp] def F338l0x:PC:=(.seq (sr [mv 48 18,bk 49 .lss 48 3] [3,4,5,13,14,16,17,18,49] (.cond (.t 49) .skip (.exit 0))) (.seq (.block 1 (sr [mv 52 3,jj 53 (.call 17 [(.t 52),(kk 6)]),mv 19 53] [3,4,5,13,14,16,17,18,19] (sr [mv 54 4,jj 55 (.call 17 [(.t 54),(kk 6)]),bk 56 .sub 55 1,mv 20 56] [3,4,5,13,14,16,17,18,19,20] (sr [mv 57 5,jj 58 (.call 17 [(.t 57),(kk 120)]),mv 21 58] [3,4,5,13,14,16,17,18,19,20,21] (sr [mv 60 16,la 61 4 14,mv 62 18,mv 63 19,mv 64 20,mv 65 21,cl 66 56 [60,61,62,63,64,65],mv 59 66,ex 67 59 0,ex 68 59 1,mv 22 67,mv 23 68] [3,4,5,13,14,17,18,19,20,21,22,23] (sr [mv 69 22,mv 16 69] [3,4,5,13,14,16,17,18,19,20,21,23] (.seq (sr [mv 70 17,jj 71 (.mkif 0 (.t 70)),la 72 4 14,mv 73 18,mv 74 19,mv 75 20,mv 76 21,cl 77 49 [71,72,73,74,75,76],mv 78 23,jj 79 (.eqb true (.t 77) (.t 78))] [3,4,5,13,14,16,17,18,21,23,79] (cs 79 (sr [mx 12 kF] [12] .ret))) (.seq (sr [mx 24 (kk 0)] [3,4,5,13,14,16,17,18,21,23,24] (.block 2 (.loop F338l1))) (sr [mv 121 17,cl 122 59 [121],mv 123 16,cl 124 58 [122,123],jj 125 (.un .not (.t 124))] [3,4,5,13,14,16,17,18,125] (cs 125 (sr [mx 12 kF] [12] .ret))))))))))) (rn [mv 50 18,bk 51 .add 50 1,mv 18 51] [3,4,5,13,14,16,17,18])))
def F338l0:PC:=F338l0x
def F338:PFun:=pf 6 [.tmp 12] (sr [mx 12 kF] [0,1,2,3,4,5] (sr [mv 32 0,cl 33 45 [32],jj 13 (.alloc [zN,sN,zN,zN,zN,zN,sN,sN,zN,zN,zN,zN,zN,zN,zN,zN]),st 16 13 33] [1,2,3,4,5,13] (sr [mv 35 1,cl 36 351 [35],mv 34 36,ex 37 34 0,ex 38 34 1,jj 14 (.alloc [sN,zN,zN,zN]),st 4 14 37,mv 15 38] [2,3,4,5,13,14,15] (.seq (sr [mv 39 15,jj 40 (.un .not (.t 39))] [2,3,4,5,13,14,40] (cs 40 (sr [mx 12 kF] [12] .ret))) (sr [la 41 16 13,mv 42 2,cl 43 47 [41,42],mv 16 43] [3,4,5,13,14,16] (sr [mv 44 16,cl 45 46 [44],mv 17 45] [3,4,5,13,14,16,17] (.seq (sr [mv 46 17,jj 47 (.isnil true false (.t 46))] [3,4,5,13,14,16,17,47] (cs 47 (sr [mx 12 kF] [12] .ret))) (.seq (sr [mx 18 (kk 0)] [3,4,5,13,14,16,17,18] (.block 0 (.loop F338l0))) (sr [jj 126 (.call 50 []),mv 12 126] [12] .ret)))))))))
def F351:PFun:=pf 1 [.cell 2 true 4,.tmp 3] (sr [jj 2 (.alloc [sN,zN,zN,zN]),mx 3 kF] [0,2] (sr [mv 10 0,cl 11 227 [10],cl 12 228 [11],mv 9 12,ex 13 9 0,ex 14 9 1,ex 15 9 2,jj 4 (.alloc [zN,zN,eN,sN,zN,zN,eN,sN,zN,zN,eN,sN]),st 12 4 13,mv 5 14,mv 6 15] [2,4,6] (.seq (sr [mv 16 6,bk 17 .neq 16 0] [2,4,17] (cs 17 (sr [jj 18 (.build [sN,zN,zN,zN] []),st 4 2 18,mx 3 kF] [2,3] .ret))) (sr [la 20 12 4,cl 21 131 [20],mv 19 21,ex 22 19 0,ex 23 19 1,jj 7 (.alloc [sN,zN,zN,zN]),st 4 7 22,mv 8 23] [2,7,8] (sr [la 24 4 7,mv 25 8,bk 26 .eql 25 0,st 4 2 24,mv 3 26] [2,3] .ret)))))
end Go.Pm.F
end
section
namespace Go.Pm.F
def qaa:Nat->Option PFun
 |45=>some F45
 |46=>some F46
 |47=>some F47
 |17=>some F17
 |49=>some F49
 |50=>some F50
 |51=>some F51
 |52=>some F52
 |55=>some F55
 |56=>some F56
 |57=>some F57
 |58=>some F58
 |59=>some F59
 |60=>some F60
 |61=>some F61
 |62=>some F62
 |63=>some F63
 |64=>some F64
 |65=>some F65
 |66=>some F66
 |67=>some F67
 |68=>some F68
 |1000=>some F1000
 |69=>some F69
 |70=>some F70
 |71=>some F71
 |72=>some F72
 |73=>some F73
 |74=>some F74
 |75=>some F75
 |76=>some F76
 |77=>some F77
 |78=>some F78
 |79=>some F79
 |80=>some F80
 |81=>some F81
 |82=>some F82
 |83=>some F83
 |84=>some F84
 |85=>some F85
 |86=>some F86
 |87=>some F87
 |88=>some F88
 |89=>some F89
 |90=>some F90
 |91=>some F91
 |92=>some F92
 |93=>some F93
 |94=>some F94
 |95=>some F95
 |96=>some F96
 |97=>some F97
 |98=>some F98
 |99=>some F99
 |100=>some F100
 |101=>some F101
 |102=>some F102
 |103=>some F103
 |104=>some F104
 |105=>some F105
 |106=>some F106
 |107=>some F107
 |108=>some F108
 |109=>some F109
 |110=>some F110
 |111=>some F111
 |112=>some F112
 |113=>some F113
 |114=>some F114
 |_=>none
end Go.Pm.F
end
namespace Go.Pm
section
open F
attribute [local simp] V.len qae qad qac
def qaA(cs:List Int)(n:Nat):S:=[.cells [.msl 1 0 n n 1,.dat (.lit (.slice none 0 0)),.int 0],.cells (qba cs)]
def qai(cs:List Int)(n:Nat)(lg:List D)(k t:Nat):S:=[.cells [.msl 1 0 n n 1,.gsl lg k 2 2,.int 0],.cells (qba cs),.tip t]
section
variable{cs:List Int}{n:Nat}{lg:List D}{k t:Nat}{i v:Int}
theorem qtr:Z qaa (.call 62 [.ptr 0 0,.int i] (qaA cs n))=some (.ret (.bool (decide (0<=i)&&decide (i<n))) (qaA cs n)):=by
 refine qab (pf:=F62) rfl rfl ?_
 by_cases h:0<=i
 ·simp[F62,qaA,h,Wa]
 ·simp[F62,qaA,h,Wa]
theorem qts:Z qaa (.call 62 [.ptr 0 0,.int i] (qai cs n lg k t))=some (.ret (.bool (decide (0<=i)&&decide (i<n))) (qai cs n lg k t)):=by
 refine qab (pf:=F62) rfl rfl ?_
 by_cases h:0<=i
 ·simp[F62,qai,h,Wa]
 ·simp[F62,qai,h,Wa]
theorem qbu(hn:cs.length=n)(h0:0<=i)(h1:i<n):Z qaa (.call 51 [.ptr 0 0,.int i] (qaA cs n))=some (.ret (.int (getI cs i)) (qaA cs n)):=by
 refine qab (pf:=F51) rfl rfl ?_
 have h2:=qtr (cs:=cs) (n:=n) (i:=i)
 have h3:i.toNat<cs.length:=by omega
 simp only[qaA] at h2
 simp[F51,qaA,h2,h0,h1,h3,qdM cs i h3,Wa]
theorem qa0(hn:cs.length=n)(h0:0<=i)(h1:i<n):Z qaa (.call 51 [.ptr 0 0,.int i] (qai cs n lg k t))=some (.ret (.int (getI cs i)) (qai cs n lg k t)):=by
 refine qab (pf:=F51) rfl rfl ?_
 have h2:=qts (cs:=cs) (n:=n) (i:=i) (lg:=lg) (k:=k) (t:=t)
 have h3:i.toNat<cs.length:=by omega
 simp only[qai] at h2
 simp[F51,qai,h2,h0,h1,h3,qdM cs i h3,Wa]
def ent(cs:List Int)(i:Int):List D:=[.lit (.int .i64 i),.lit (.int .i64 (getI cs i))]
theorem qtt(hn:cs.length=n)(h0:0<=i)(h1:i<n):Z qaa (.call 114 [.ptr 0 0,.int i,.int v] (qaA cs n))=some (.ret (.tup []) (qai (qao cs i v) n (ent cs i) 1 2)):=by
 refine qab (pf:=F114) rfl rfl ?_
 have h2:=qtr (cs:=cs) (n:=n) (i:=i)
 have h3:i.toNat<cs.length:=by omega
 simp only[qaA] at h2
 have h4:=qaO cs i.toNat v h3
 have h7:i.toNat+1<=cs.length:=h3
 simp[F114,qaA,qai,h2,h0,h1,h3,h4,h7,qdM cs i h3,Wa,qao,ent,qbw,qiL,qay,qaI,qan]
theorem qbp(hn:cs.length=n)(h0:0<=i)(h1:i<n)(hl:lg.length=k*2)(hk:k<2^30):Z qaa (.call 114 [.ptr 0 0,.int i,.int v] (qai cs n lg k (k*2)))=some (.ret (.tup []) (qai (qao cs i v) n (lg++ent cs i) (k+1) ((k+1)*2))):=by
 refine qab (pf:=F114) rfl rfl ?_
 have h2:=qts (cs:=cs) (n:=n) (i:=i) (lg:=lg) (k:=k) (t:=k*2)
 have h3:i.toNat<cs.length:=by omega
 have h5:qay (k+1) 16=true:=by simp[qay]; omega
 simp only[qai] at h2
 have h4:=qaO cs i.toNat v h3
 have h7:i.toNat+1<=cs.length:=h3
 simp[F114,qaA,qai,h2,h0,h1,h3,h4,h5,h7,hl,qdM cs i h3,Wa,qao,ent,qbw,qiL,qaI,qan]
 try omega
theorem qxb:Z qaa (.call 73 [.ptr 0 0] (qaA cs n))=some (.ret (.int n) (qaA cs n)):=by
 refine qab (pf:=F73) rfl rfl ?_
 simp[F73,qaA,Wa]
theorem qxc:Z qaa (.call 73 [.ptr 0 0] (qai cs n lg k t))=some (.ret (.int n) (qai cs n lg k t)):=by
 refine qab (pf:=F73) rfl rfl ?_
 simp[F73,qai,Wa]
end
end
section
open F
attribute [local simp] V.len qae
def qeX(w:List Int)(i:Nat):List Int:=w.take i++List.replicate (w.length-i) 0
@[simp] theorem qk7(w:List Int)(i:Nat):(qeX w i).length=w.length:=by simp[qeX]; omega
theorem qij(w:List Int)(i:Nat)(h:w.length<=i):qeX w i=w:=by simp[qeX,Wx h,Nat.sub_eq_zero_of_le h]
theorem qgO(w:List Int):qeX w 0=List.replicate w.length 0:=by simp[qeX]
theorem qpx(w:List Int)(i:Nat)(h:i<w.length):(qeX w i).set i (getN w i)=qeX w (i+1):=by
 apply List.ext_getElem (by simp)
 intro j h1 h2
 simp only[List.length_set,qk7] at h1
 simp only[getN,qeX,List.getElem_set,List.getElem_append,WL,List.getElem_take,List.getElem_replicate,Wn,WH h,Option.getD_some]
 split
 ·subst i; rw[dif_pos (by omega)]
 ·split
  ·rw[dif_pos (by omega)]
  ·rw[dif_neg (by omega)]
theorem qik(w:List Int)(i:Nat)(h:i<w.length):(qba (qeX w i)).take i++(V.int (getN w i)::(qba (qeX w i)).drop (i+1))=qba (qeX w (i+1)):=by
 rw[qaO _ _ _ (by simpa using h),qpx w i h]
def qj7(w:D)(n:Nat)(i:Int):Fr:=[(0,.dat w),(3,.ptr 0 0),(11,.int n),(12,.int i)]
theorem qrX (w:List Int) (n:Nat) (f:Bool) (hn:w.length=n) (hb:n<2^40) (m i:Nat) (hm:i+m=n) :
  Z qaa (.loop 0 F46l0 (qj7 (.sl (qal w) n f) n i) (qaA (qeX w i) n))=some (.out (.exit 0) (qj7 (.sl (qal w) n f) n n++[(13,.bool false)]) (qaA w n)):=by
 induction m generalizing i with
 |zero=>
  have:i=n:=by omega
  subst this
  rw[qac,qij w i (by omega)]
  simp[qad,qlh,qaA,qj7,Wa]
 |succ m ih=>
  have h1:=ih (i+1) (by omega)
  have h2:i<n:=by omega
  have h3:i<w.length:=by omega
  have h4:=qik w i h3
  have h5:=qaJ w i h3
  have w1:=qag (i+1:Int) (by omega)
  have h6:i+1<=w.length:=h3
  simp only[qj7,qaA,WE,Wv] at h1
  rw[qac]
  simp[qad,qlh,qaA,qj7,Wa,h2,h5,h4,h6,w1,h1,qaI,qan]
theorem qxQ(w:List Int)(n:Nat)(f:Bool)(hn:w.length=n)(hb:n<2^40):Z qaa (.call 46 [.dat (.sl (qal w) n f)] [])=some (.ret (.ptr 0 0) (qaA w n)):=by
 refine qab (pf:=F46) rfl rfl ?_
 have h1:=qrX w n f hn hb n 0 (by omega)
 rw[qac] at h1
 have hg:gcF 0 (qj7 (.sl (qal w) n f) n (0:Nat)) (qaA (qeX w 0) n)=some (qj7 (.sl (qal w) n f) n (0:Nat),qaA (qeX w 0) n):=by
  simp[qj7,qaA,Wa]
 rw[hg] at h1
 rw[show ((0:Nat):Int)=0 from rfl] at h1
 have h2:(n:Int)<=1099511627776/\8*(n:Int)<=281474976710656:=by omega
 have h3:8*n<=281474976710656:=by omega
 rw[qgO,hn] at h1
 simp only[qj7,qaA] at h1 ⊢
 simp[F46,qac,qe4,h2,h3,Wa,h1]
end
section
open F
attribute [local simp] V.len qae
theorem qma (w:List Int) (n:Nat)  (hn:w.length=n) (hb:n<2^40) (m i:Nat) (hm:i+m=n) :
  Z qaa (.loop 2 F59l0 [(0,.ptr 0 0),(3,.msl 2 0 n n 1),(9,.int n),(10,.int i)] (qaA w n++[.cells (qba (qeX w i))]))=some (.out (.exit 0) [(0,.ptr 0 0),(3,.msl 2 0 n n 1),(9,.int n),(10,.int n),(11,.bool false)] (qaA w n++[.cells (qba w)])):=by
 induction m generalizing i with
 |zero=>
  have:i=n:=by omega
  subst this
  rw[qac,qij w i (by omega)]
  simp[qad,qgt,qaA,Wa]
 |succ m ih=>
  have h1:=ih (i+1) (by omega)
  have h2:i<n:=by omega
  have h3:i<w.length:=by omega
  have h4:=qik w i h3
  have h5:=qbu (cs:=w) (n:=n) (i:=i)  hn (by omega) (by omega)
  have h7:getI w i=getN w i:=by simp[getI]
  have w1:=qag (i+1:Int) (by omega)
  have h6:i+1<=w.length:=h3
  simp only[qaA,WE,Wv,h7,Wi,Wc] at h1 h5
  rw[qac]
  simp[qad,qgt,qaA,Wa,h2,h5,h4,h6,w1,h1,qaI,qan]
theorem qm7(w:List Int)(n:Nat)(hn:w.length=n)(hb:n<2^40):Z qaa (.call 59 [.ptr 0 0] (qaA w n))=some (.ret (.dat (.sl (qal w) n false)) (qaA w n)):=by
 refine qab (pf:=F59) rfl rfl ?_
 have h1:=qma w n  hn hb n 0 (by omega)
 have h4:=qxb (cs:=w) (n:=n)
 have h2:(n:Int)<=1099511627776/\8*(n:Int)<=281474976710656:=by omega
 have h3:8*n<=281474976710656:=by omega
 have h5:=qd6 w n (by omega)
 rw[qgO,hn] at h1
 rw[show ((0:Nat):Int)=0 from rfl] at h1
 simp only[qaA,Wi,Wc] at h1 h4 ⊢
 simp[F59,qe4,h2,h3,h4,h5,hn,Wa,h1]
theorem qmb (w:List Int) (n:Nat) (lg:List D) (k t:Nat) (hn:w.length=n) (hb:n<2^40) (m i:Nat) (hm:i+m=n) :
  Z qaa (.loop 3 F59l0 [(0,.ptr 0 0),(3,.msl 3 0 n n 1),(9,.int n),(10,.int i)] (qai w n lg k t++[.cells (qba (qeX w i))]))=some (.out (.exit 0) [(0,.ptr 0 0),(3,.msl 3 0 n n 1),(9,.int n),(10,.int n),(11,.bool false)] (qai w n lg k t++[.cells (qba w)])):=by
 induction m generalizing i with
 |zero=>
  have:i=n:=by omega
  subst this
  rw[qac,qij w i (by omega)]
  simp[qad,qgt,qai,Wa]
 |succ m ih=>
  have h1:=ih (i+1) (by omega)
  have h2:i<n:=by omega
  have h3:i<w.length:=by omega
  have h4:=qik w i h3
  have h5:=qa0 (cs:=w) (n:=n) (i:=i) (lg:=lg) (k:=k) (t:=t) hn (by omega) (by omega)
  have h7:getI w i=getN w i:=by simp[getI]
  have w1:=qag (i+1:Int) (by omega)
  have h6:i+1<=w.length:=h3
  simp only[qai,WE,Wv,h7,Wi,Wc] at h1 h5
  rw[qac]
  simp[qad,qgt,qai,Wa,h2,h5,h4,h6,w1,h1,qaI,qan]
theorem qm8(w:List Int)(n:Nat)(lg:List D)(k t:Nat)(hn:w.length=n)(hb:n<2^40):Z qaa (.call 59 [.ptr 0 0] (qai w n lg k t))=some (.ret (.dat (.sl (qal w) n false)) (qai w n lg k t)):=by
 refine qab (pf:=F59) rfl rfl ?_
 have h1:=qmb w n lg k t hn hb n 0 (by omega)
 have h4:=qxc (cs:=w) (n:=n) (lg:=lg) (k:=k) (t:=t)
 have h2:(n:Int)<=1099511627776/\8*(n:Int)<=281474976710656:=by omega
 have h3:8*n<=281474976710656:=by omega
 have h5:=qd6 w n (by omega)
 rw[qgO,hn] at h1
 rw[show ((0:Nat):Int)=0 from rfl] at h1
 simp only[qai,Wi,Wc] at h1 h4 ⊢
 simp[F59,qe4,h2,h3,h4,h5,hn,Wa,h1]
end
section
open F
attribute [local simp] V.len qae qad qac
def qgd(s w:Int):Int:=
 let m:=IntKind.u64.wrap (ql2 .u64 (· ^^^ ·) s w*11400714819323198485)
 ql2 .u64 (· ^^^ ·) m (m.tdiv 4294967296)
def hashI(a b c d:Int):Int:=qgd (qgd (qgd (qgd (qgd 10587374985770004219 (IntKind.u64.wrap a)) (IntKind.u64.wrap b)) (IntKind.u64.wrap c)) (IntKind.u64.wrap d)) 0
theorem qeS(n:Int):0<=IntKind.u64.wrap n/\IntKind.u64.wrap n<18446744073709551616:=by
 have:IntKind.u64.wrap n=n % 18446744073709551616:=by simp[IntKind.wrap,IntKind.bits,IntKind.signed]
 rw[this]; omega
theorem qhd(n:Int)(h:0<=n/\n<18446744073709551616):IntKind.u64.wrap n=n:=by
 have:IntKind.u64.wrap n=n % 18446744073709551616:=by simp[IntKind.wrap,IntKind.bits,IntKind.signed]
 rw[this]; omega
theorem qrn(m:Int)(h:0<=m/\m<18446744073709551616):IntKind.u64.wrap (m.tdiv 4294967296)=m.tdiv 4294967296:=by
 apply qhd
 have:=Yl h.1 (b:=4294967296)
 omega
theorem quG(m:Int)(h:0<=m/\m<18446744073709551616):shrI .u64 m 32=m.tdiv 4294967296:=by
 rw[Yl h.1 (b:=4294967296)]
 show Int.fdiv _ (2 ^ min (32:Int).toNat IntKind.u64.bits)=_
 rw[Int.fdiv_eq_ediv_of_nonneg _ (by decide)]
 rfl
def qic(s w:Int):Int:=IntKind.u64.wrap (ql2 .u64 (· ^^^ ·) s w*11400714819323198485)
theorem qid(s w:Int):0<=qic s w/\qic s w<18446744073709551616:=qeS _
theorem qj0(s w:Int):qgd s w=ql2 .u64 (· ^^^ ·) (qic s w) ((qic s w).tdiv 4294967296):=by
 unfold qgd qic
 exact rfl
theorem qhI(a b:Int):qia .xor (.int .u64 a) (.int .u64 b)=some (.int .u64 (ql2 .u64 (· ^^^ ·) a b)):=by simp
theorem qmR(a b:Int):qia .mul (.int .u64 (ql2 .u64 (· ^^^ ·) a b)) (.int .u64 11400714819323198485)=some (.int .u64 (qic a b)):=by simp[qic]
theorem qro(a b:Int):qia .quo (.int .u64 (qic a b)) (.int .u64 4294967296)=some (.int .u64 ((qic a b).tdiv 4294967296)):=by simp[qrn _ (qid a b)]
theorem qrp(a b:Int):qia .shr (.int .u64 (qic a b)) (.int .u64 32)=some (.int .u64 ((qic a b).tdiv 4294967296)):=by simp[quG _ (qid a b)]
def F80KV(K Q:Int):PFun:=⟨2,[.tmp 4],
 .seq (.region none [⟨some 4,.mov (.c (.int .u64 0)),none,[]⟩] [0,1])
 (.seq (.region none [⟨some 6,.mov (.t 0),none,[]⟩,
  ⟨some 7,.mov (.t 1),none,[]⟩,
  ⟨some 8,.bin .xor (.t 6) (.t 7),none,[]⟩,
  ⟨some 9,.bin .mul (.t 8) (.c (.int .u64 K)),none,[]⟩,
  ⟨some 5,.mov (.t 9),none,[]⟩] [5])
 (.seq (.region none [⟨some 10,.mov (.t 5),none,[]⟩,
  ⟨some 11,.mov (.t 5),none,[]⟩,
  ⟨some 12,.bin .quo (.t 11) (.c (.int .u64 Q)),none,[]⟩,
  ⟨some 13,.bin .xor (.t 10) (.t 12),none,[]⟩,
  ⟨some 4,.mov (.t 13),none,[]⟩] [4])
 (.ret))),false,false,false⟩
theorem qrq (C:Task->Option Res) {K Q s w x m z y:Int} (h1:qia .xor (.int .u64 s) (.int .u64 w)=some (.int .u64 x)) (h2:qia .mul (.int .u64 x) (.int .u64 K)=some (.int .u64 m)) (h3:qia .quo (.int .u64 m) (.int .u64 Q)=some (.int .u64 z)) (h4:qia .xor (.int .u64 m) (.int .u64 z)=some (.int .u64 y)) :
  qcd C (F80KV K Q) [.dat (.lit (.int .u64 s)),.dat (.lit (.int .u64 w))] []=some (.ret (.dat (.lit (.int .u64 y))) []):=by
 simp[F80KV,-qia,h1,h2,h3,h4]
theorem F80_KV:F80=F80KV 11400714819323198485 4294967296:=rfl
theorem qeT(s w:Int):Z qaa (.call 80 [.dat (.lit (.int .u64 s)),.dat (.lit (.int .u64 w))] [])=some (.ret (.dat (.lit (.int .u64 (qgd s w)))) []):=by
 refine qab (pf:=F80) rfl rfl ?_
 rw[qj0,F80_KV]
 exact qrq _ (qhI s w) (qmR s w) (qro s w) (qhI _ _)
def F111KV(K Q:Int):PFun:=⟨2,[.tmp 4],
 .seq (.region none [⟨some 4,.mov (.c (.int .u64 0)),none,[]⟩] [0,1])
 (.seq (.region none [⟨some 6,.mov (.t 0),none,[]⟩,
  ⟨some 7,.mov (.t 1),none,[]⟩,
  ⟨some 8,.bin .xor (.t 6) (.t 7),none,[]⟩,
  ⟨some 9,.bin .mul (.t 8) (.c (.int .u64 K)),none,[]⟩,
  ⟨some 5,.mov (.t 9),none,[]⟩] [5])
 (.seq (.region none [⟨some 10,.mov (.t 5),none,[]⟩,
  ⟨some 11,.mov (.t 5),none,[]⟩,
  ⟨some 12,.bin .shr (.t 11) (.c (.int .u64 Q)),none,[]⟩,
  ⟨some 13,.bin .xor (.t 10) (.t 12),none,[]⟩,
  ⟨some 4,.mov (.t 13),none,[]⟩] [4])
 (.ret))),false,false,false⟩
theorem qpf (C:Task->Option Res) {K Q s w x m z y:Int} (h1:qia .xor (.int .u64 s) (.int .u64 w)=some (.int .u64 x)) (h2:qia .mul (.int .u64 x) (.int .u64 K)=some (.int .u64 m)) (h3:qia .shr (.int .u64 m) (.int .u64 Q)=some (.int .u64 z)) (h4:qia .xor (.int .u64 m) (.int .u64 z)=some (.int .u64 y)) :
  qcd C (F111KV K Q) [.dat (.lit (.int .u64 s)),.dat (.lit (.int .u64 w))] []=some (.ret (.dat (.lit (.int .u64 y))) []):=by
 simp[F111KV,-qia,h1,h2,h3,h4]
theorem F111_KV:F111=F111KV 11400714819323198485 32:=rfl
theorem qie(s w:Int):Z qaa (.call 111 [.dat (.lit (.int .u64 s)),.dat (.lit (.int .u64 w))] [])=some (.ret (.dat (.lit (.int .u64 (qgd s w)))) []):=by
 refine qab (pf:=F111) rfl rfl ?_
 rw[qj0,F111_KV]
 exact qpf _ (qhI s w) (qmR s w) (qrp s w) (qhI _ _)
theorem qrr:Z qaa (.call 110 [.str ⟨#[101,102,102,101,99,116]⟩,.int 4] [])=some (.ret (.dat (.lit (.int .u64 10587374985770004219))) []):=qb4 (n:=40) (by kernel_rfl)
theorem quH:Z qaa (.call 79 [.dat (.sl (qeR ⟨#[101,102,102,101,99,116]⟩) 6 false)] [])=some (.ret (.dat (.sl [.lit (.int .u64 127970251794021)] 1 false)) []):=qb4 (n:=40) (by kernel_rfl)
theorem qrs:qgd (qgd (qgd 0 127970251794021) 6) 4=10587374985770004219:=by kernel_rfl
theorem qxB {B a b c d a' b' c' d' x1 x2 x3 x4 x5:Int} (f:Bool) (hB:Z qaa (.call 110 [.str ⟨#[101,102,102,101,99,116]⟩,.int 4] [])=some (.ret (.dat (.lit (.int .u64 B))) []))
  (ha:IntKind.u64.wrap a=a') (hb:IntKind.u64.wrap b=b') (hc:IntKind.u64.wrap c=c') (hd:IntKind.u64.wrap d=d')
  (m1:Z qaa (.call 111 [.dat (.lit (.int .u64 B)),.dat (.lit (.int .u64 a'))] [])=some (.ret (.dat (.lit (.int .u64 x1))) [])) (m2:Z qaa (.call 111 [.dat (.lit (.int .u64 x1)),.dat (.lit (.int .u64 b'))] [])=some (.ret (.dat (.lit (.int .u64 x2))) [])) (m3:Z qaa (.call 111 [.dat (.lit (.int .u64 x2)),.dat (.lit (.int .u64 c'))] [])=some (.ret (.dat (.lit (.int .u64 x3))) [])) (m4:Z qaa (.call 111 [.dat (.lit (.int .u64 x3)),.dat (.lit (.int .u64 d'))] [])=some (.ret (.dat (.lit (.int .u64 x4))) [])) (m5:Z qaa (.call 111 [.dat (.lit (.int .u64 x4)),.dat (.lit (.int .u64 0))] [])=some (.ret (.dat (.lit (.int .u64 x5))) [])) :
  Z qaa (.call 109 [.str ⟨#[101,102,102,101,99,116]⟩,.dat (.sl [.lit (.int .i64 a),.lit (.int .i64 b),.lit (.int .i64 c),.lit (.int .i64 d)] 4 f)] [])=some (.ret (.dat (.lit (.int .u64 x5))) []):=by
 refine qab (pf:=F109) rfl rfl ?_
 simp[F109,qoj,hB,ha,hb,hc,hd,m1,m2,m3,m4,m5,qag]
theorem qxC {a b c d a' b' c' d' x1 x2 x3 x4 x5 y1 y2 B:Int} (f:Bool)
  (ha:IntKind.u64.wrap a=a') (hb:IntKind.u64.wrap b=b') (hc:IntKind.u64.wrap c=c') (hd:IntKind.u64.wrap d=d')
  (k1:Z qaa (.call 80 [.dat (.lit (.int .u64 0)),.dat (.lit (.int .u64 127970251794021))] [])=some (.ret (.dat (.lit (.int .u64 y1))) [])) (k2:Z qaa (.call 80 [.dat (.lit (.int .u64 y1)),.dat (.lit (.int .u64 6))] [])=some (.ret (.dat (.lit (.int .u64 y2))) [])) (k3:Z qaa (.call 80 [.dat (.lit (.int .u64 y2)),.dat (.lit (.int .u64 4))] [])=some (.ret (.dat (.lit (.int .u64 B))) []))
  (m1:Z qaa (.call 80 [.dat (.lit (.int .u64 B)),.dat (.lit (.int .u64 a'))] [])=some (.ret (.dat (.lit (.int .u64 x1))) [])) (m2:Z qaa (.call 80 [.dat (.lit (.int .u64 x1)),.dat (.lit (.int .u64 b'))] [])=some (.ret (.dat (.lit (.int .u64 x2))) [])) (m3:Z qaa (.call 80 [.dat (.lit (.int .u64 x2)),.dat (.lit (.int .u64 c'))] [])=some (.ret (.dat (.lit (.int .u64 x3))) [])) (m4:Z qaa (.call 80 [.dat (.lit (.int .u64 x3)),.dat (.lit (.int .u64 d'))] [])=some (.ret (.dat (.lit (.int .u64 x4))) [])) (m5:Z qaa (.call 80 [.dat (.lit (.int .u64 x4)),.dat (.lit (.int .u64 0))] [])=some (.ret (.dat (.lit (.int .u64 x5))) [])) :
  Z qaa (.call 70 [.str ⟨#[101,102,102,101,99,116]⟩,.dat (.sl [.lit (.int .i64 a),.lit (.int .i64 b),.lit (.int .i64 c),.lit (.int .i64 d)] 4 f)] [])=some (.ret (.dat (.lit (.int .u64 x5))) []):=by
 refine qab (pf:=F70) rfl rfl ?_
 have hw:=quH
 have hs:(⟨#[101,102,102,101,99,116]⟩:ByteArray).size=6:=rfl
 have w6:IntKind.u64.wrap 6=6:=by decide
 have w4:IntKind.u64.wrap 4=4:=by decide
 simp[F70,qp1,qp2,hw,hs,w6,w4,k1,k2,k3,ha,hb,hc,hd,m1,m2,m3,m4,m5,qag]
theorem quI(a b c d:Int)(f:Bool):Z qaa (.call 109 [.str ⟨#[101,102,102,101,99,116]⟩,.dat (.sl [.lit (.int .i64 a),.lit (.int .i64 b),.lit (.int .i64 c),.lit (.int .i64 d)] 4 f)] [])=some (.ret (.dat (.lit (.int .u64 (hashI a b c d)))) []):=
 qxB f qrr rfl rfl rfl rfl (qie _ _) (qie _ _) (qie _ _) (qie _ _) (qie _ _)
theorem quJ(a b c d:Int)(f:Bool):Z qaa (.call 70 [.str ⟨#[101,102,102,101,99,116]⟩,.dat (.sl [.lit (.int .i64 a),.lit (.int .i64 b),.lit (.int .i64 c),.lit (.int .i64 d)] 4 f)] [])=some (.ret (.dat (.lit (.int .u64 (hashI a b c d)))) []):=by
 have h3:=qeT (qgd (qgd 0 127970251794021) 6) 4
 rw[qrs] at h3
 exact qxC f rfl rfl rfl rfl (qeT _ _) (qeT _ _) h3 (qeT _ _) (qeT _ _) (qeT _ _) (qeT _ _) (qeT _ _)
theorem quK:Z qaa (.call 50 [] [])=some (.ret (.bool true) []):=qb4 (n:=400) (by kernel_rfl)
end
section
open F
attribute [local simp] V.len qae
def qek(n lo hi:Int):Int:=if n<lo then lo else if n > hi then hi else n
def qsH(n:Int):Int:=qek n (-2147483647) 2147483647
def qlw(b:Bool):Int:=if b then 1 else 0
def appI:Nat->Int->Int->Int
 |9,a,b=>qsH (wr (a+b))
 |10,a,b=>qsH (wr (a-b))
 |11,a,b=>qsH (wr (a*b))
 |12,a,b=>if b=0 then 0 else qsH (wr (a.tdiv b))
 |13,a,_=>qsH (wr (0-a))
 |14,a,b=>qlw (decide (a<b))
 |15,a,b=>qlw (decide (a<=b))
 |16,a,b=>qlw (decide (a=b))
 |_,a,_=>qlw (decide (a=0))
theorem qfw(n lo hi:Int):Z qaa (.call 108 [.int n,.int lo,.int hi] [])=some (.ret (.int (qek n lo hi)) []):=by
 refine qab (pf:=F108) rfl rfl ?_
 by_cases h:n<lo
 ·simp[F108,h,qek]
 ·by_cases h2:hi<n
  ·simp[F108,h,h2,qek]
  ·simp[F108,h,h2,qek]
theorem qko(n lo hi:Int):Z qaa (.call 78 [.int n,.int lo,.int hi] [])=some (.ret (.int (qek n lo hi)) []):=by
 refine qab (pf:=F78) rfl rfl ?_
 by_cases h:n<lo
 ·simp[F78,h,qek]
 ·by_cases h2:hi<n
  ·simp[F78,h,h2,qek]
  ·simp[F78,h,h2,qek]
theorem qjx(n:Int):Z qaa (.call 88 [.int n] [])=some (.ret (.int (qsH n)) []):=by
 refine qab (pf:=F88) rfl rfl ?_
 simp[F88,qfw,qsH]
theorem qjy(n:Int):Z qaa (.call 81 [.int n] [])=some (.ret (.int (qsH n)) []):=by
 refine qab (pf:=F81) rfl rfl ?_
 simp[F81,qko,qsH]
theorem qkp(b:Bool):Z qaa (.call 93 [.bool b] [])=some (.ret (.int (qlw b)) []):=by
 refine qab (pf:=F93) rfl rfl ?_
 cases b<;>simp[F93,qlw]
theorem qkq(b:Bool):Z qaa (.call 61 [.bool b] [])=some (.ret (.int (qlw b)) []):=by
 refine qab (pf:=F61) rfl rfl ?_
 cases b<;>simp[F61,qlw]
theorem qmq(a b:Int) : ∀ p∈[(87,9),(89,10),(90,11),(91,12),(92,14),(94,15),(95,16)],Z qaa (.call p.1 [.int a,.int b] [])=some (.ret (.int (appI p.2 a b)) []):=by
 intro p hp
 simp only[Wr,Wt,or_false] at hp
 rcases hp with rfl|rfl|rfl|rfl|rfl|rfl|rfl
 ·refine qab (pf:=F87) rfl rfl ?_
  simp[F87,qjx,appI]
 ·refine qab (pf:=F89) rfl rfl ?_
  simp[F89,qjx,appI]
 ·refine qab (pf:=F90) rfl rfl ?_
  simp[F90,qjx,appI]
 ·refine qab (pf:=F91) rfl rfl ?_
  by_cases h:b=0
  ·simp[F91,qjx,appI,h]
  ·simp[F91,qjx,appI,h]
 ·refine qab (pf:=F92) rfl rfl ?_
  simp[F92,qkp,appI]
 ·refine qab (pf:=F94) rfl rfl ?_
  simp[F94,qkp,appI]
 ·refine qab (pf:=F95) rfl rfl ?_
  simp[F95,qkp,appI]
theorem qBH(a:Int) : ∀ p∈[(96,13),(97,17)],Z qaa (.call p.1 [.int a] [])=some (.ret (.int (appI p.2 a 0)) []):=by
 intro p hp
 simp only[Wr,Wt,or_false] at hp
 rcases hp with rfl|rfl
 ·refine qab (pf:=F96) rfl rfl ?_
  simp[F96,qjx,appI]
 ·refine qab (pf:=F97) rfl rfl ?_
  simp[F97,qkp,appI]
theorem qqo(a b:Int)(op:Nat)(h1:9<=op)(h2:op<=17):Z qaa (.call 71 [.int op,.int a,.int b] [])=some (.ret (.int (appI op a b)) []):=by
 refine qab (pf:=F71) rfl rfl ?_
 obtain rfl|rfl|rfl|rfl|rfl|rfl|rfl|rfl|rfl:op=9\/op=10\/op=11\/op=12\/op=13\/op=14\/op=15\/op=16\/op=17:=by omega
 ·simp[F71,qjy,appI]
 ·simp[F71,qjy,appI]
 ·simp[F71,qjy,appI]
 ·by_cases h:b=0
  ·simp[F71,qjy,appI,h]
  ·simp[F71,qjy,appI,h]
 ·simp[F71,qjy,appI]
 ·simp[F71,qkq,appI]
 ·simp[F71,qkq,appI]
 ·simp[F71,qkq,appI]
 ·simp[F71,qkq,appI]
def qjz(n b:Int):Int:=if n=0\/n=1 then qek b (-1048576) 1048576 else if n=2\/n=3 then qek b (-16384) 16384 else b
theorem qAZ(n b:Int):Z qaa (.call 102 [.int n,.int b] [])=some (.ret (.int (qjz n b)) []):=by
 refine qab (pf:=F102) rfl rfl ?_
 by_cases h0:n=0
 ·simp[F102,qfw,qjz,h0]
 ·by_cases h1:n=1
  ·simp[F102,qfw,qjz,h0,h1]
  ·by_cases h2:n=2
   ·simp[F102,qfw,qjz,h0,h1,h2]
   ·by_cases h3:n=3
    ·simp[F102,qfw,qjz,h0,h1,h2,h3]
    ·simp[F102,qfw,qjz,h0,h1,h2,h3]
end
section
open F
attribute [local simp] V.len qae
structure Su where
 p:Nat
 nb:Nat
 bs:List D
 ds:List D
 nd:Nat
 fog:Int
 gy:Int
 push:Int
 drag:Int
 rest:Int
 rounds:Int
def iD(n:Int):D := .lit (.int .i64 n)
def qnA:List D:=[iD (-12000),iD (-9000),iD (-1),iD 9000,iD 0,iD 0,iD 12000,iD 9000,iD 0,iD (-9000),iD 12000,iD (-1)]
def Su.c(s:Su):List D:=[.lit (.int .i64 s.p),.sl s.bs s.nb false,.lit (.int .i64 (-12000)),.lit (.int .i64 (-9000)),.lit (.int .i64 12000),.lit (.int .i64 9000),.sl qnA 3 true,.sl s.ds s.nd true,
 .lit (.int .i64 s.fog),.lit (.int .i64 0),.lit (.int .i64 s.gy),.lit (.int .i64 s.push),.lit (.int .i64 s.drag),.lit (.int .i64 s.rest),.lit (.int .i64 s.rounds),.lit (.int .i64 60)]
def Su.d(s:Su):V := .dat (.agg s.c)
def Su.n(s:Su):Nat:=48+4*s.p+8*s.nb
structure Su.ok(s:Su):Prop where
 p1:1<=s.p
 p3:s.p<=3
 b1:s.p<=s.nb
 b5:s.nb<=s.p+2
def bodyI(s:Su)(b:Int):Int:=if b<0\/(s.nb:Int)<=b then -1 else 48+4*s.p+8*b
theorem qmu(s:Su)(h:s.ok)(b:Int):Z qaa (.call 100 [s.d,.int b] [])=some (.ret (.int (bodyI s b)) []):=by
 refine qab (pf:=F100) rfl rfl ?_
 have h1:=h.p3; have h2:=h.b5
 by_cases h3:b<0
 ·simp[F100,Su.d,Su.c,h3,bodyI]
 ·by_cases h4:(s.nb:Int)<=b
  ·simp[F100,Su.d,Su.c,h3,h4,bodyI]
  ·have w1:=qag (8*b) (by omega)
   have w2:=qag (4*(s.p:Int)) (by omega)
   have w3:=qag (48+4*(s.p:Int)) (by omega)
   have w4:=qag (48+4*(s.p:Int)+8*b) (by omega)
   simp[F100,Su.d,Su.c,h3,h4,bodyI,w1,w2,w3,w4]
theorem qmv(s:Su)(h:s.ok)(b:Int):Z qaa (.call 66 [s.d,.int b] [])=some (.ret (.int (bodyI s b)) []):=by
 refine qab (pf:=F66) rfl rfl ?_
 have h1:=h.p3; have h2:=h.b5
 by_cases h3:b<0
 ·simp[F66,Su.d,Su.c,h3,bodyI]
 ·by_cases h4:(s.nb:Int)<=b
  ·simp[F66,Su.d,Su.c,h3,h4,bodyI]
  ·have w1:=qag (8*b) (by omega)
   have w2:=qag (4*(s.p:Int)) (by omega)
   have w3:=qag (48+4*(s.p:Int)) (by omega)
   have w4:=qag (48+4*(s.p:Int)+8*b) (by omega)
   simp[F66,Su.d,Su.c,h3,h4,bodyI,w1,w2,w3,w4]
theorem qyY(s:Su)(h:s.ok):Z qaa (.call 65 [s.d] [])=some (.ret (.int s.n) []):=by
 refine qab (pf:=F65) rfl rfl ?_
 have h1:=h.p3; have h2:=h.b5
 have w1:=qag (8*(s.nb:Int)) (by omega)
 have w2:=qag (4*(s.p:Int)) (by omega)
 have w3:=qag (48+4*(s.p:Int)) (by omega)
 have w4:=qag (48+4*(s.p:Int)+8*(s.nb:Int)) (by omega)
 simp[F65,Su.d,Su.c,Su.n,w1,w2,w3,w4]
def popsN:Nat->Nat
 |3|4|13|17|19=>1
 |5|9|10|11|12|14|15|16|20=>2
 |_=>0
def pushN:Nat->Nat
 |3|5|18|19|20|21=>0
 |_=>1
def operN:Nat->Nat
 |2|3=>16
 |4|5=>8
 |_=>0
theorem qt7 : ∀ op:Nat,1<=op->op<=21->Z qaa (.call 68 [.int op] [])=some (.ret (.int (popsN op)) [])
 |1,_,_=>qb4 (n:=2) (by kernel_rfl)
 |2,_,_=>qb4 (n:=2) (by kernel_rfl)
 |3,_,_=>qb4 (n:=2) (by kernel_rfl)
 |4,_,_=>qb4 (n:=2) (by kernel_rfl)
 |5,_,_=>qb4 (n:=2) (by kernel_rfl)
 |6,_,_=>qb4 (n:=2) (by kernel_rfl)
 |7,_,_=>qb4 (n:=2) (by kernel_rfl)
 |8,_,_=>qb4 (n:=2) (by kernel_rfl)
 |9,_,_=>qb4 (n:=2) (by kernel_rfl)
 |10,_,_=>qb4 (n:=2) (by kernel_rfl)
 |11,_,_=>qb4 (n:=2) (by kernel_rfl)
 |12,_,_=>qb4 (n:=2) (by kernel_rfl)
 |13,_,_=>qb4 (n:=2) (by kernel_rfl)
 |14,_,_=>qb4 (n:=2) (by kernel_rfl)
 |15,_,_=>qb4 (n:=2) (by kernel_rfl)
 |16,_,_=>qb4 (n:=2) (by kernel_rfl)
 |17,_,_=>qb4 (n:=2) (by kernel_rfl)
 |18,_,_=>qb4 (n:=2) (by kernel_rfl)
 |19,_,_=>qb4 (n:=2) (by kernel_rfl)
 |20,_,_=>qb4 (n:=2) (by kernel_rfl)
 |21,_,_=>qb4 (n:=2) (by kernel_rfl)
 |n+22,_,h=>absurd h (by omega)
theorem qt8 : ∀ op:Nat,1<=op->op<=21->Z qaa (.call 72 [.int op] [])=some (.ret (.int (pushN op)) [])
 |1,_,_=>qb4 (n:=2) (by kernel_rfl)
 |2,_,_=>qb4 (n:=2) (by kernel_rfl)
 |3,_,_=>qb4 (n:=2) (by kernel_rfl)
 |4,_,_=>qb4 (n:=2) (by kernel_rfl)
 |5,_,_=>qb4 (n:=2) (by kernel_rfl)
 |6,_,_=>qb4 (n:=2) (by kernel_rfl)
 |7,_,_=>qb4 (n:=2) (by kernel_rfl)
 |8,_,_=>qb4 (n:=2) (by kernel_rfl)
 |9,_,_=>qb4 (n:=2) (by kernel_rfl)
 |10,_,_=>qb4 (n:=2) (by kernel_rfl)
 |11,_,_=>qb4 (n:=2) (by kernel_rfl)
 |12,_,_=>qb4 (n:=2) (by kernel_rfl)
 |13,_,_=>qb4 (n:=2) (by kernel_rfl)
 |14,_,_=>qb4 (n:=2) (by kernel_rfl)
 |15,_,_=>qb4 (n:=2) (by kernel_rfl)
 |16,_,_=>qb4 (n:=2) (by kernel_rfl)
 |17,_,_=>qb4 (n:=2) (by kernel_rfl)
 |18,_,_=>qb4 (n:=2) (by kernel_rfl)
 |19,_,_=>qb4 (n:=2) (by kernel_rfl)
 |20,_,_=>qb4 (n:=2) (by kernel_rfl)
 |21,_,_=>qb4 (n:=2) (by kernel_rfl)
 |n+22,_,h=>absurd h (by omega)
theorem qBS : ∀ op:Nat,1<=op->op<=21->qah G_arenanet_vm_effects (op*3) 1=some [.lit (.int .i64 (popsN op))]
 |1,_,_=>by kernel_rfl
 |2,_,_=>by kernel_rfl
 |3,_,_=>by kernel_rfl
 |4,_,_=>by kernel_rfl
 |5,_,_=>by kernel_rfl
 |6,_,_=>by kernel_rfl
 |7,_,_=>by kernel_rfl
 |8,_,_=>by kernel_rfl
 |9,_,_=>by kernel_rfl
 |10,_,_=>by kernel_rfl
 |11,_,_=>by kernel_rfl
 |12,_,_=>by kernel_rfl
 |13,_,_=>by kernel_rfl
 |14,_,_=>by kernel_rfl
 |15,_,_=>by kernel_rfl
 |16,_,_=>by kernel_rfl
 |17,_,_=>by kernel_rfl
 |18,_,_=>by kernel_rfl
 |19,_,_=>by kernel_rfl
 |20,_,_=>by kernel_rfl
 |21,_,_=>by kernel_rfl
 |n+22,_,h=>absurd h (by omega)
theorem qBT : ∀ op:Nat,1<=op->op<=21->qah G_arenanet_vm_effects (op*3+1) 1=some [.lit (.int .i64 (pushN op))]
 |1,_,_=>by kernel_rfl
 |2,_,_=>by kernel_rfl
 |3,_,_=>by kernel_rfl
 |4,_,_=>by kernel_rfl
 |5,_,_=>by kernel_rfl
 |6,_,_=>by kernel_rfl
 |7,_,_=>by kernel_rfl
 |8,_,_=>by kernel_rfl
 |9,_,_=>by kernel_rfl
 |10,_,_=>by kernel_rfl
 |11,_,_=>by kernel_rfl
 |12,_,_=>by kernel_rfl
 |13,_,_=>by kernel_rfl
 |14,_,_=>by kernel_rfl
 |15,_,_=>by kernel_rfl
 |16,_,_=>by kernel_rfl
 |17,_,_=>by kernel_rfl
 |18,_,_=>by kernel_rfl
 |19,_,_=>by kernel_rfl
 |20,_,_=>by kernel_rfl
 |21,_,_=>by kernel_rfl
 |n+22,_,h=>absurd h (by omega)
theorem qwq : ∀ op:Nat,1<=op->op<=21->qah G_arenanet_vm_effects (op*3) 3=some [.lit (.int .i64 (popsN op)),.lit (.int .i64 (pushN op)),.lit (.int .i64 (operN op))]
 |1,_,_=>by kernel_rfl
 |2,_,_=>by kernel_rfl
 |3,_,_=>by kernel_rfl
 |4,_,_=>by kernel_rfl
 |5,_,_=>by kernel_rfl
 |6,_,_=>by kernel_rfl
 |7,_,_=>by kernel_rfl
 |8,_,_=>by kernel_rfl
 |9,_,_=>by kernel_rfl
 |10,_,_=>by kernel_rfl
 |11,_,_=>by kernel_rfl
 |12,_,_=>by kernel_rfl
 |13,_,_=>by kernel_rfl
 |14,_,_=>by kernel_rfl
 |15,_,_=>by kernel_rfl
 |16,_,_=>by kernel_rfl
 |17,_,_=>by kernel_rfl
 |18,_,_=>by kernel_rfl
 |19,_,_=>by kernel_rfl
 |20,_,_=>by kernel_rfl
 |21,_,_=>by kernel_rfl
 |n+22,_,h=>absurd h (by omega)
def qmw(op:Nat)(n sp:Int):Bool:=decide (sp<=16)&&(decide (popsN op<=sp)&&(decide (sp-popsN op+pushN op<=16)&&(decide (operN op=0)||(decide (0<=n)&&decide (n<operN op)))))
theorem qkz(op:Nat):popsN op<=2:=by unfold popsN; split<;>omega
theorem qkA(op:Nat):pushN op<=1:=by unfold pushN; split<;>omega
theorem qs9(op:Nat)(n sp:Int)(h1:1<=op)(h2:op<=21):Z qaa (.call 63 [.dat (.agg [.lit (.int .i64 op),.lit (.int .i64 n)]),.int sp] [])=some (.ret (.bool (qmw op n sp)) []):=by
 refine qab (pf:=F63) rfl rfl ?_
 have h3 : ¬ (op:Int)<1:=by omega
 have h4 : ¬ (21:Int)<op:=by omega
 have h5:=qwq op h1 h2
 have h6:=qkz op
 have h7:=qkA op
 have h8:(op:Int)<22:=by omega
 unfold qmw
 generalize popsN op=a at *
 generalize pushN op=b at *
 generalize operN op=c at *
 by_cases k1:16<sp
 ·have k2 : ¬ sp<=16:=by omega
  simp[F63,h3,h4,k1,k2]
 ·have k2:sp<=16:=by omega
  by_cases k3:sp<a
  ·have k4 : ¬ (a:Int)<=sp:=by omega
   simp[F63,h3,h4,h5,h8,k1,k2,k3,k4]
  ·have k4:(a:Int)<=sp:=by omega
   have w1:=qag (sp-a) (by omega)
   have w2:=qag (sp-a+b) (by omega)
   by_cases k5:(16:Int)<sp-a+b
   ·have k6 : ¬ sp-a+b<=16:=by omega
    simp[F63,h3,h4,h5,h8,k1,k2,k3,k4,k5,k6,w1,w2]
   ·have k6:sp-a+b<=16:=by omega
    by_cases k7:c=0
    ·simp[F63,h3,h4,h5,h8,k1,k2,k3,k4,k5,k6,k7,w1,w2]
    ·by_cases k8:0<=n
     ·simp[F63,h3,h4,h5,h8,k1,k2,k3,k4,k5,k6,k7,k8,w1,w2]
     ·simp[F63,h3,h4,h5,h8,k1,k2,k3,k4,k5,k6,k7,k8,w1,w2]
end
section
open F
attribute [local simp] V.len qae
def exV(s:Su)(cs:List Int)(op:Nat)(n a b:Int):Int:=
 match op with
 |1=>n
 |2=>getI cs (32+n)
 |4=>if bodyI s a<0 then 0 else getI cs (bodyI s a+n)
 |6=>getI cs 9
 |7=>getI cs 10
 |8=>getI cs 0
 |3|5|18|19|20|21=>0
 |k=>appI k a b
def qub(cs:List Int)(a b:Int):Int:=wr (shrI .u64 (hashI (getI cs 12) (getI cs 0) a b) 1)
def exC(s:Su)(cs:List Int)(op:Nat)(n a b:Int):List Int:=
 match op with
 |3=>qao cs (32+n) a
 |5=>if bodyI s a<0 then cs else qao cs (bodyI s a+n) (qjz n b)
 |18=>qao cs 6 n
 |19=>if a=0 then qao cs 6 n else cs
 |20=>if 40<=getI cs 11 then cs else qao (qao cs 12 (qub cs a b)) 11 (wr (getI cs 11+1))
 |_=>cs
def exB(cs:List Int)(op:Nat):Bool:=decide (op=20)&&decide (getI cs 11<40)
def exE(cs:List Int)(op:Nat)(a b:Int):List Int:=if exB cs op then [getI cs 0,getI cs 11,a,b] else [0,0,0,0]
section
variable{s:Su}{cs:List Int}{N:Nat}{lg:List D}{k:Nat}{n a b:Int}
theorem ld1:Z qaa (.call 82 [.iface 0 (.ptr 0 0),.int n] (qai cs N lg k (k*2)))=some (.ret (.int n) (qai cs N lg k (k*2))):=by
 refine qab (pf:=F82) rfl rfl ?_
 simp[F82,qai,Wa]
theorem ld2(hN:cs.length=N)(h:48<=N)(h0:0<=n)(h1:n<16):Z qaa (.call 83 [.iface 0 (.ptr 0 0),.int n] (qai cs N lg k (k*2)))=some (.ret (.int (getI cs (32+n))) (qai cs N lg k (k*2))):=by
 refine qab (pf:=F83) rfl rfl ?_
 have g:=qa0 (cs:=cs) (n:=N) (lg:=lg) (k:=k) (t:=k*2) (i:=32+n) hN (by omega) (by omega)
 have w:=qag (32+n) (by omega)
 simp only[qai] at g
 simp[F83,qai,Wa,g,w]
theorem ld3(hN:cs.length=N)(h:48<=N):Z qaa (.call 84 [.iface 0 (.ptr 0 0),.int n] (qai cs N lg k (k*2)))=some (.ret (.int (getI cs 9)) (qai cs N lg k (k*2))):=by
 refine qab (pf:=F84) rfl rfl ?_
 have g:=qa0 (cs:=cs) (n:=N) (lg:=lg) (k:=k) (t:=k*2) (i:=9) hN (by omega) (by omega)
 simp only[qai] at g
 simp[F84,qai,Wa,g]
theorem ld4(hN:cs.length=N)(h:48<=N):Z qaa (.call 85 [.iface 0 (.ptr 0 0),.int n] (qai cs N lg k (k*2)))=some (.ret (.int (getI cs 10)) (qai cs N lg k (k*2))):=by
 refine qab (pf:=F85) rfl rfl ?_
 have g:=qa0 (cs:=cs) (n:=N) (lg:=lg) (k:=k) (t:=k*2) (i:=10) hN (by omega) (by omega)
 simp only[qai] at g
 simp[F85,qai,Wa,g]
theorem ld5(hN:cs.length=N)(h:48<=N):Z qaa (.call 86 [.iface 0 (.ptr 0 0),.int n] (qai cs N lg k (k*2)))=some (.ret (.int (getI cs 0)) (qai cs N lg k (k*2))):=by
 refine qab (pf:=F86) rfl rfl ?_
 have g:=qa0 (cs:=cs) (n:=N) (lg:=lg) (k:=k) (t:=k*2) (i:=0) hN (by omega) (by omega)
 simp only[qai] at g
 simp[F86,qai,Wa,g]
theorem ot1 (hN:cs.length=N) (h:48<=N) (hl:lg.length=k*2) (hk:k<2^30) (h0:0<=n) (h1:n<16):Z qaa (.call 98 [.iface 0 (.ptr 0 0),s.d,.dat (.agg [.lit (.int .i64 n),.lit (.int .i64 a),.lit (.int .i64 b)])] (qai cs N lg k (k*2))) =
  some (.ret (.tup [.int 0,.dat (.agg (qal [0,0,0,0])),.bool false]) (qai (qao cs (32+n) a) N (lg++ent cs (32+n)) (k+1) ((k+1)*2))):=by
 refine qab (pf:=F98) rfl rfl ?_
 have g:=qbp (cs:=cs) (n:=N) (lg:=lg) (k:=k) (i:=32+n) (v:=a) hN (by omega) (by omega) hl hk
 have w:=qag (32+n) (by omega)
 simp only[qai] at g
 simp[F98,qai,Su.d,Su.c,Wa,g,w,qal]
theorem ot4 (hN:cs.length=N) (h:48<=N) (hl:lg.length=k*2) (hk:k<2^30):Z qaa (.call 103 [.iface 0 (.ptr 0 0),s.d,.dat (.agg [.lit (.int .i64 n),.lit (.int .i64 a),.lit (.int .i64 b)])] (qai cs N lg k (k*2))) =
  some (.ret (.tup [.int 0,.dat (.agg (qal [0,0,0,0])),.bool false]) (qai (qao cs 6 n) N (lg++ent cs 6) (k+1) ((k+1)*2))):=by
 refine qab (pf:=F103) rfl rfl ?_
 have g:=qbp (cs:=cs) (n:=N) (lg:=lg) (k:=k) (i:=6) (v:=n) hN (by omega) (by omega) hl hk
 simp only[qai] at g
 simp[F103,qai,Su.d,Su.c,Wa,g,qal]
theorem ot5 (hN:cs.length=N) (h:48<=N) (hl:lg.length=k*2) (hk:k<2^30) (ha:a=0):Z qaa (.call 104 [.iface 0 (.ptr 0 0),s.d,.dat (.agg [.lit (.int .i64 n),.lit (.int .i64 a),.lit (.int .i64 b)])] (qai cs N lg k (k*2))) =
  some (.ret (.tup [.int 0,.dat (.agg (qal [0,0,0,0])),.bool false]) (qai (qao cs 6 n) N (lg++ent cs 6) (k+1) ((k+1)*2))):=by
 refine qab (pf:=F104) rfl rfl ?_
 have g:=qbp (cs:=cs) (n:=N) (lg:=lg) (k:=k) (i:=6) (v:=n) hN (by omega) (by omega) hl hk
 simp only[qai] at g
 simp[F104,qai,Su.d,Su.c,Wa,g,qal,ha]
theorem qCz (ha:a≠0):Z qaa (.call 104 [.iface 0 (.ptr 0 0),s.d,.dat (.agg [.lit (.int .i64 n),.lit (.int .i64 a),.lit (.int .i64 b)])] (qai cs N lg k (k*2))) =
  some (.ret (.tup [.int 0,.dat (.agg (qal [0,0,0,0])),.bool false]) (qai cs N lg k (k*2))):=by
 refine qab (pf:=F104) rfl rfl ?_
 simp[F104,qai,Su.d,Su.c,Wa,qal,ha]
theorem ot7:Z qaa (.call 107 [.iface 0 (.ptr 0 0),s.d,.dat (.agg [.lit (.int .i64 n),.lit (.int .i64 a),.lit (.int .i64 b)])] (qai cs N lg k (k*2))) =
  some (.ret (.tup [.int 0,.dat (.agg (qal [0,0,0,0])),.bool false]) (qai cs N lg k (k*2))):=by
 refine qab (pf:=F107) rfl rfl ?_
 simp[F107,qai,Su.d,Su.c,Wa,qal]
theorem ot2 (hs:s.ok) (hN:cs.length=N) (h:N=s.n) (h0:0<=n) (h1:n<8):Z qaa (.call 99 [.iface 0 (.ptr 0 0),s.d,.dat (.agg [.lit (.int .i64 n),.lit (.int .i64 a),.lit (.int .i64 b)])] (qai cs N lg k (k*2))) =
  some (.ret (.tup [.int (if bodyI s a<0 then 0 else getI cs (bodyI s a+n)),.dat (.agg (qal [0,0,0,0])),.bool false]) (qai cs N lg k (k*2))):=by
 refine qab (pf:=F99) rfl rfl ?_
 have hb:=qmu s hs a
 have hp:=hs.p3; have hq:=hs.b5
 by_cases h3:bodyI s a<0
 ·have h4 : ¬ 0<=bodyI s a:=by omega
  simp only[Su.d,Su.c] at hb
  simp[F99,qai,Su.d,Su.c,Wa,qal,hb,h3,h4]
 ·have h4:0<=bodyI s a:=by omega
  have h5:bodyI s a+8<=N:=by
   unfold bodyI at h3 ⊢
   rw[h]; unfold Su.n
   split at h3
   ·omega
   ·rename_i h6; rw[if_neg h6]; omega
  have g:=qa0 (cs:=cs) (n:=N) (lg:=lg) (k:=k) (t:=k*2) (i:=bodyI s a+n) hN (by omega) (by omega)
  have hN2:N<=1000:=by rw[h]; unfold Su.n; omega
  have w:=qag (bodyI s a+n) (by omega)
  simp only[Su.d,Su.c] at hb
  simp only[qai] at g
  simp[F99,qai,Su.d,Su.c,Wa,qal,hb,h3,h4,g,w]
theorem ot3 (hs:s.ok) (hN:cs.length=N) (h:N=s.n) (hl:lg.length=k*2) (hk:k<2^30) (h0:0<=n) (h1:n<8) (h3 : ¬ bodyI s a<0):Z qaa (.call 101 [.iface 0 (.ptr 0 0),s.d,.dat (.agg [.lit (.int .i64 n),.lit (.int .i64 a),.lit (.int .i64 b)])] (qai cs N lg k (k*2))) =
  some (.ret (.tup [.int 0,.dat (.agg (qal [0,0,0,0])),.bool false]) (qai (qao cs (bodyI s a+n) (qjz n b)) N (lg++ent cs (bodyI s a+n)) (k+1) ((k+1)*2))):=by
 refine qab (pf:=F101) rfl rfl ?_
 have hb:=qmu s hs a
 have hp:=hs.p3; have hq:=hs.b5
 have h4:0<=bodyI s a:=by omega
 have h5:bodyI s a+8<=N:=by
  unfold bodyI at h3 ⊢
  rw[h]; unfold Su.n
  split at h3
  ·omega
  ·rename_i h6; rw[if_neg h6]; omega
 have g:=qbp (cs:=cs) (n:=N) (lg:=lg) (k:=k) (i:=bodyI s a+n) (v:=qjz n b) hN (by omega) (by omega) hl hk
 have hN2:N<=1000:=by rw[h]; unfold Su.n; omega
 have w:=qag (bodyI s a+n) (by omega)
 simp only[Su.d,Su.c] at hb
 simp only[qai] at g
 simp[F101,qai,Su.d,Su.c,Wa,qal,hb,h3,h4,g,w,qAZ,qaI,qan]
theorem qCA (hs:s.ok) (h3:bodyI s a<0):Z qaa (.call 101 [.iface 0 (.ptr 0 0),s.d,.dat (.agg [.lit (.int .i64 n),.lit (.int .i64 a),.lit (.int .i64 b)])] (qai cs N lg k (k*2))) =
  some (.ret (.tup [.int 0,.dat (.agg (qal [0,0,0,0])),.bool false]) (qai cs N lg k (k*2))):=by
 refine qab (pf:=F101) rfl rfl ?_
 have hb:=qmu s hs a
 have h4 : ¬ 0<=bodyI s a:=by omega
 simp only[Su.d,Su.c] at hb
 simp[F101,qai,Su.d,Su.c,Wa,qal,hb,h3,h4]
end
end
section
open F
attribute [local simp] V.len qae
section
variable{s:Su}{cs:List Int}{N:Nat}{lg:List D}{k:Nat}{n a b:Int}
theorem qyy (hN:cs.length=N) (h:48<=N) (hc:40<=getI cs 11):Z qaa (.call 106 [.iface 0 (.ptr 0 0),.int a,.int b] (qai cs N lg k (k*2))) =
  some (.ret (.tup [.dat (.agg (qal [0,0,0,0])),.bool false]) (qai cs N lg k (k*2))):=by
 refine qab (pf:=F106) rfl rfl ?_
 have g:=qa0 (cs:=cs) (n:=N) (lg:=lg) (k:=k) (t:=k*2) (i:=11) hN (by omega) (by omega)
 simp only[qai] at g
 generalize getI cs 11=c at *
 simp[F106,qai,Wa,g,hc,qal]
theorem qvV {c tk hs h2 hh e:Int} {lg1 lg2:List D} {cs1 cs2:List Int} (hc : ¬ 40<=c) (hc2:wr (c+1)=e) (hf:wr (shrI .u64 hh 1)=h2)
  (g1:Z qaa (.call 51 [.ptr 0 0,.int 11] (qai cs N lg k (k*2)))=some (.ret (.int c) (qai cs N lg k (k*2))))
  (g2:Z qaa (.call 51 [.ptr 0 0,.int 0] (qai cs N lg k (k*2)))=some (.ret (.int tk) (qai cs N lg k (k*2))))
  (g3:Z qaa (.call 51 [.ptr 0 0,.int 12] (qai cs N lg k (k*2)))=some (.ret (.int hs) (qai cs N lg k (k*2))))
  (g4:Z qaa (.call 109 [.str ⟨#[101,102,102,101,99,116]⟩,.dat (.sl [.lit (.int .i64 hs),.lit (.int .i64 tk),.lit (.int .i64 a),.lit (.int .i64 b)] 4 true)] [])=some (.ret (.dat (.lit (.int .u64 hh))) []))
  (g5:Z qaa (.call 114 [.ptr 0 0,.int 12,.int h2] (qai cs N lg k (k*2)))=some (.ret (.tup []) (qai cs1 N lg1 (k+1) ((k+1)*2))))
  (g6:Z qaa (.call 114 [.ptr 0 0,.int 11,.int e] (qai cs1 N lg1 (k+1) ((k+1)*2)))=some (.ret (.tup []) (qai cs2 N lg2 (k+2) ((k+2)*2)))) :
  Z qaa (.call 106 [.iface 0 (.ptr 0 0),.int a,.int b] (qai cs N lg k (k*2))) =
  some (.ret (.tup [.dat (.agg [.lit (.int .i64 tk),.lit (.int .i64 c),.lit (.int .i64 a),.lit (.int .i64 b)]),.bool true]) (qai cs2 N lg2 (k+2) ((k+2)*2))):=by
 refine qab (pf:=F106) rfl rfl ?_
 simp only[qai] at g1 g2 g3 g5 g6
 simp[F106,qai,Wa,g1,g2,g3,g4,g5,g6,hc,hc2,hf]
theorem qyz (hN:cs.length=N) (h:48<=N) (hl:lg.length=k*2) (hk:k<2^29) (hc : ¬ 40<=getI cs 11) : ∃ lg',lg'.length=(k+2)*2 /\
  Z qaa (.call 106 [.iface 0 (.ptr 0 0),.int a,.int b] (qai cs N lg k (k*2))) =
  some (.ret (.tup [.dat (.agg (qal [getI cs 0,getI cs 11,a,b])),.bool true]) (qai (qao (qao cs 12 (qub cs a b)) 11 (wr (getI cs 11+1))) N lg' (k+2) ((k+2)*2))):=by
 refine⟨(lg++ent cs 12)++ent (qao cs 12 (qub cs a b)) 11,by simp[ent,hl]; omega,?_⟩
 have g5:=qbp (cs:=cs) (n:=N) (lg:=lg) (k:=k) (i:=12) (v:=qub cs a b) hN (by omega) (by omega) hl (by omega)
 have g6:=qbp (cs:=qao cs 12 (qub cs a b)) (n:=N) (lg:=lg++ent cs 12) (k:=k+1) (i:=11) (v:=wr (getI cs 11+1)) (by simp[hN]) (by omega) (by omega) (by simp[ent,hl]; omega) (by omega)
 exact qvV hc rfl rfl (qa0 hN (by omega) (by omega)) (qa0 hN (by omega) (by omega)) (qa0 hN (by omega) (by omega)) (quI _ _ _ _ _) g5 g6
theorem ot6 {x1 x2 x3 x4:Int} {em:Bool} {cs':List Int} {lg':List D} {k':Nat} (he:Z qaa (.call 106 [.iface 0 (.ptr 0 0),.int a,.int b] (qai cs N lg k (k*2)))=some (.ret (.tup [.dat (.agg (qal [x1,x2,x3,x4])),.bool em]) (qai cs' N lg' k' (k'*2)))) :
  Z qaa (.call 105 [.iface 0 (.ptr 0 0),s.d,.dat (.agg [.lit (.int .i64 n),.lit (.int .i64 a),.lit (.int .i64 b)])] (qai cs N lg k (k*2))) =
  some (.ret (.tup [.int 0,.dat (.agg (qal [x1,x2,x3,x4])),.bool em]) (qai cs' N lg' k' (k'*2))):=by
 refine qab (pf:=F105) rfl rfl ?_
 simp only[qai] at he
 simp[F105,qai,Su.d,Su.c,Wa,he,qal] at he ⊢
end
end
section
open F
attribute [local simp] V.len qae
theorem qB3:Z qaa (.call 74 [.int 1] [])=some (.ret (.fn 82 [] []) []):=qb4 (n:=2) (by kernel_rfl)
theorem qAd:Z qaa (.call 74 [.int 2] [])=some (.ret (.fn 83 [] []) []):=qb4 (n:=2) (by kernel_rfl)
theorem qB4:Z qaa (.call 77 [.int 3] [])=some (.ret (.fn 98 [] []) []):=qb4 (n:=2) (by kernel_rfl)
theorem qB5:Z qaa (.call 77 [.int 4] [])=some (.ret (.fn 99 [] []) []):=qb4 (n:=2) (by kernel_rfl)
theorem qB6:Z qaa (.call 77 [.int 5] [])=some (.ret (.fn 101 [] []) []):=qb4 (n:=2) (by kernel_rfl)
theorem qB7:Z qaa (.call 74 [.int 6] [])=some (.ret (.fn 84 [] []) []):=qb4 (n:=2) (by kernel_rfl)
theorem qB8:Z qaa (.call 74 [.int 7] [])=some (.ret (.fn 85 [] []) []):=qb4 (n:=2) (by kernel_rfl)
theorem qAe:Z qaa (.call 74 [.int 8] [])=some (.ret (.fn 86 [] []) []):=qb4 (n:=2) (by kernel_rfl)
theorem qB9:Z qaa (.call 75 [.int 9] [])=some (.ret (.fn 87 [] []) []):=qb4 (n:=2) (by kernel_rfl)
theorem qAf:Z qaa (.call 75 [.int 10] [])=some (.ret (.fn 89 [] []) []):=qb4 (n:=2) (by kernel_rfl)
theorem qAg:Z qaa (.call 75 [.int 11] [])=some (.ret (.fn 90 [] []) []):=qb4 (n:=2) (by kernel_rfl)
theorem qAh:Z qaa (.call 75 [.int 12] [])=some (.ret (.fn 91 [] []) []):=qb4 (n:=2) (by kernel_rfl)
theorem qAi:Z qaa (.call 76 [.int 13] [])=some (.ret (.fn 96 [] []) []):=qb4 (n:=2) (by kernel_rfl)
theorem qAj:Z qaa (.call 75 [.int 14] [])=some (.ret (.fn 92 [] []) []):=qb4 (n:=2) (by kernel_rfl)
theorem qAk:Z qaa (.call 75 [.int 15] [])=some (.ret (.fn 94 [] []) []):=qb4 (n:=2) (by kernel_rfl)
theorem qAl:Z qaa (.call 75 [.int 16] [])=some (.ret (.fn 95 [] []) []):=qb4 (n:=2) (by kernel_rfl)
theorem qAm:Z qaa (.call 76 [.int 17] [])=some (.ret (.fn 97 [] []) []):=qb4 (n:=2) (by kernel_rfl)
theorem qAn:Z qaa (.call 77 [.int 18] [])=some (.ret (.fn 103 [] []) []):=qb4 (n:=2) (by kernel_rfl)
theorem qAo:Z qaa (.call 77 [.int 19] [])=some (.ret (.fn 104 [] []) []):=qb4 (n:=2) (by kernel_rfl)
theorem qAp:Z qaa (.call 77 [.int 20] [])=some (.ret (.fn 105 [] []) []):=qb4 (n:=2) (by kernel_rfl)
theorem qAq:Z qaa (.call 77 [.int 21] [])=some (.ret (.fn 107 [] []) []):=qb4 (n:=2) (by kernel_rfl)
def exR(v:Int)(e:List Int)(em:Bool):V := .tup [.int v,.dat (.agg (qal e)),.bool em]
def qbC(n a b:Int):V := .dat (.agg [.lit (.int .i64 n),.lit (.int .i64 a),.lit (.int .i64 b)])
section
variable{s:Su}{cs cs':List Int}{N:Nat}{lg lg':List D}{k k':Nat}{n a b v x1 x2 x3 x4:Int}{em:Bool}
theorem qCa (h:Z qaa (.call 82 [.iface 0 (.ptr 0 0),.int n] (qai cs N lg k (k*2)))=some (.ret (.int v) (qai cs N lg k (k*2)))) :
  Z qaa (.call 64 [.int 1,.iface 0 (.ptr 0 0),s.d,qbC n a b] (qai cs N lg k (k*2)))=some (.ret (exR v [0,0,0,0] false) (qai cs N lg k (k*2))):=by
 refine qab (pf:=F64) rfl rfl ?_
 simp only[qai] at h
 simp[F64,qai,Su.d,Su.c,qbC,exR,Wa,qB3,h,qal,qaI,qan]
theorem ex2 (h:Z qaa (.call 83 [.iface 0 (.ptr 0 0),.int n] (qai cs N lg k (k*2)))=some (.ret (.int v) (qai cs N lg k (k*2)))) :
  Z qaa (.call 64 [.int 2,.iface 0 (.ptr 0 0),s.d,qbC n a b] (qai cs N lg k (k*2)))=some (.ret (exR v [0,0,0,0] false) (qai cs N lg k (k*2))):=by
 refine qab (pf:=F64) rfl rfl ?_
 simp only[qai] at h
 simp[F64,qai,Su.d,Su.c,qbC,exR,Wa,qAd,h,qal,qaI,qan]
theorem ex6 (h:Z qaa (.call 84 [.iface 0 (.ptr 0 0),.int n] (qai cs N lg k (k*2)))=some (.ret (.int v) (qai cs N lg k (k*2)))) :
  Z qaa (.call 64 [.int 6,.iface 0 (.ptr 0 0),s.d,qbC n a b] (qai cs N lg k (k*2)))=some (.ret (exR v [0,0,0,0] false) (qai cs N lg k (k*2))):=by
 refine qab (pf:=F64) rfl rfl ?_
 simp only[qai] at h
 simp[F64,qai,Su.d,Su.c,qbC,exR,Wa,qB7,h,qal,qaI,qan]
theorem ex7 (h:Z qaa (.call 85 [.iface 0 (.ptr 0 0),.int n] (qai cs N lg k (k*2)))=some (.ret (.int v) (qai cs N lg k (k*2)))) :
  Z qaa (.call 64 [.int 7,.iface 0 (.ptr 0 0),s.d,qbC n a b] (qai cs N lg k (k*2)))=some (.ret (exR v [0,0,0,0] false) (qai cs N lg k (k*2))):=by
 refine qab (pf:=F64) rfl rfl ?_
 simp only[qai] at h
 simp[F64,qai,Su.d,Su.c,qbC,exR,Wa,qB8,h,qal,qaI,qan]
theorem ex8 (h:Z qaa (.call 86 [.iface 0 (.ptr 0 0),.int n] (qai cs N lg k (k*2)))=some (.ret (.int v) (qai cs N lg k (k*2)))) :
  Z qaa (.call 64 [.int 8,.iface 0 (.ptr 0 0),s.d,qbC n a b] (qai cs N lg k (k*2)))=some (.ret (exR v [0,0,0,0] false) (qai cs N lg k (k*2))):=by
 refine qab (pf:=F64) rfl rfl ?_
 simp only[qai] at h
 simp[F64,qai,Su.d,Su.c,qbC,exR,Wa,qAe,h,qal,qaI,qan]
theorem ex9 (h:Z qaa (.call 87 [.int a,.int b] [])=some (.ret (.int v) [])) :
  Z qaa (.call 64 [.int 9,.iface 0 (.ptr 0 0),s.d,qbC n a b] (qai cs N lg k (k*2)))=some (.ret (exR v [0,0,0,0] false) (qai cs N lg k (k*2))):=by
 refine qab (pf:=F64) rfl rfl ?_
 simp[F64,qai,Su.d,Su.c,qbC,exR,Wa,qB9,h,qal,qaI,qan]
theorem qCb (h:Z qaa (.call 89 [.int a,.int b] [])=some (.ret (.int v) [])) :
  Z qaa (.call 64 [.int 10,.iface 0 (.ptr 0 0),s.d,qbC n a b] (qai cs N lg k (k*2)))=some (.ret (exR v [0,0,0,0] false) (qai cs N lg k (k*2))):=by
 refine qab (pf:=F64) rfl rfl ?_
 simp[F64,qai,Su.d,Su.c,qbC,exR,Wa,qAf,h,qal,qaI,qan]
theorem qCc (h:Z qaa (.call 90 [.int a,.int b] [])=some (.ret (.int v) [])) :
  Z qaa (.call 64 [.int 11,.iface 0 (.ptr 0 0),s.d,qbC n a b] (qai cs N lg k (k*2)))=some (.ret (exR v [0,0,0,0] false) (qai cs N lg k (k*2))):=by
 refine qab (pf:=F64) rfl rfl ?_
 simp[F64,qai,Su.d,Su.c,qbC,exR,Wa,qAg,h,qal,qaI,qan]
theorem qCd (h:Z qaa (.call 91 [.int a,.int b] [])=some (.ret (.int v) [])) :
  Z qaa (.call 64 [.int 12,.iface 0 (.ptr 0 0),s.d,qbC n a b] (qai cs N lg k (k*2)))=some (.ret (exR v [0,0,0,0] false) (qai cs N lg k (k*2))):=by
 refine qab (pf:=F64) rfl rfl ?_
 simp[F64,qai,Su.d,Su.c,qbC,exR,Wa,qAh,h,qal,qaI,qan]
theorem qCe (h:Z qaa (.call 92 [.int a,.int b] [])=some (.ret (.int v) [])) :
  Z qaa (.call 64 [.int 14,.iface 0 (.ptr 0 0),s.d,qbC n a b] (qai cs N lg k (k*2)))=some (.ret (exR v [0,0,0,0] false) (qai cs N lg k (k*2))):=by
 refine qab (pf:=F64) rfl rfl ?_
 simp[F64,qai,Su.d,Su.c,qbC,exR,Wa,qAj,h,qal,qaI,qan]
theorem qCf (h:Z qaa (.call 94 [.int a,.int b] [])=some (.ret (.int v) [])) :
  Z qaa (.call 64 [.int 15,.iface 0 (.ptr 0 0),s.d,qbC n a b] (qai cs N lg k (k*2)))=some (.ret (exR v [0,0,0,0] false) (qai cs N lg k (k*2))):=by
 refine qab (pf:=F64) rfl rfl ?_
 simp[F64,qai,Su.d,Su.c,qbC,exR,Wa,qAk,h,qal,qaI,qan]
theorem qCg (h:Z qaa (.call 95 [.int a,.int b] [])=some (.ret (.int v) [])) :
  Z qaa (.call 64 [.int 16,.iface 0 (.ptr 0 0),s.d,qbC n a b] (qai cs N lg k (k*2)))=some (.ret (exR v [0,0,0,0] false) (qai cs N lg k (k*2))):=by
 refine qab (pf:=F64) rfl rfl ?_
 simp[F64,qai,Su.d,Su.c,qbC,exR,Wa,qAl,h,qal,qaI,qan]
theorem qCh (h:Z qaa (.call 96 [.int a] [])=some (.ret (.int v) [])) :
  Z qaa (.call 64 [.int 13,.iface 0 (.ptr 0 0),s.d,qbC n a b] (qai cs N lg k (k*2)))=some (.ret (exR v [0,0,0,0] false) (qai cs N lg k (k*2))):=by
 refine qab (pf:=F64) rfl rfl ?_
 simp[F64,qai,Su.d,Su.c,qbC,exR,Wa,qAi,h,qal,qaI,qan]
theorem qCi (h:Z qaa (.call 97 [.int a] [])=some (.ret (.int v) [])) :
  Z qaa (.call 64 [.int 17,.iface 0 (.ptr 0 0),s.d,qbC n a b] (qai cs N lg k (k*2)))=some (.ret (exR v [0,0,0,0] false) (qai cs N lg k (k*2))):=by
 refine qab (pf:=F64) rfl rfl ?_
 simp[F64,qai,Su.d,Su.c,qbC,exR,Wa,qAm,h,qal,qaI,qan]
theorem ex3 (h:Z qaa (.call 98 [.iface 0 (.ptr 0 0),s.d,qbC n a b] (qai cs N lg k (k*2)))=some (.ret (exR v [x1,x2,x3,x4] em) (qai cs' N lg' k' (k'*2)))) :
  Z qaa (.call 64 [.int 3,.iface 0 (.ptr 0 0),s.d,qbC n a b] (qai cs N lg k (k*2)))=some (.ret (exR v [x1,x2,x3,x4] em) (qai cs' N lg' k' (k'*2))):=by
 refine qab (pf:=F64) rfl rfl ?_
 simp only[qai,Su.d,Su.c,qbC,exR,qal,List.map] at h
 simp[F64,qai,Su.d,Su.c,qbC,exR,Wa,qB4,h,qal,qaI,qan]
theorem ex4 (h:Z qaa (.call 99 [.iface 0 (.ptr 0 0),s.d,qbC n a b] (qai cs N lg k (k*2)))=some (.ret (exR v [x1,x2,x3,x4] em) (qai cs' N lg' k' (k'*2)))) :
  Z qaa (.call 64 [.int 4,.iface 0 (.ptr 0 0),s.d,qbC n a b] (qai cs N lg k (k*2)))=some (.ret (exR v [x1,x2,x3,x4] em) (qai cs' N lg' k' (k'*2))):=by
 refine qab (pf:=F64) rfl rfl ?_
 simp only[qai,Su.d,Su.c,qbC,exR,qal,List.map] at h
 simp[F64,qai,Su.d,Su.c,qbC,exR,Wa,qB5,h,qal,qaI,qan]
theorem ex5 (h:Z qaa (.call 101 [.iface 0 (.ptr 0 0),s.d,qbC n a b] (qai cs N lg k (k*2)))=some (.ret (exR v [x1,x2,x3,x4] em) (qai cs' N lg' k' (k'*2)))) :
  Z qaa (.call 64 [.int 5,.iface 0 (.ptr 0 0),s.d,qbC n a b] (qai cs N lg k (k*2)))=some (.ret (exR v [x1,x2,x3,x4] em) (qai cs' N lg' k' (k'*2))):=by
 refine qab (pf:=F64) rfl rfl ?_
 simp only[qai,Su.d,Su.c,qbC,exR,qal,List.map] at h
 simp[F64,qai,Su.d,Su.c,qbC,exR,Wa,qB6,h,qal,qaI,qan]
theorem qCj (h:Z qaa (.call 103 [.iface 0 (.ptr 0 0),s.d,qbC n a b] (qai cs N lg k (k*2)))=some (.ret (exR v [x1,x2,x3,x4] em) (qai cs' N lg' k' (k'*2)))) :
  Z qaa (.call 64 [.int 18,.iface 0 (.ptr 0 0),s.d,qbC n a b] (qai cs N lg k (k*2)))=some (.ret (exR v [x1,x2,x3,x4] em) (qai cs' N lg' k' (k'*2))):=by
 refine qab (pf:=F64) rfl rfl ?_
 simp only[qai,Su.d,Su.c,qbC,exR,qal,List.map] at h
 simp[F64,qai,Su.d,Su.c,qbC,exR,Wa,qAn,h,qal,qaI,qan]
theorem qBB (h:Z qaa (.call 104 [.iface 0 (.ptr 0 0),s.d,qbC n a b] (qai cs N lg k (k*2)))=some (.ret (exR v [x1,x2,x3,x4] em) (qai cs' N lg' k' (k'*2)))) :
  Z qaa (.call 64 [.int 19,.iface 0 (.ptr 0 0),s.d,qbC n a b] (qai cs N lg k (k*2)))=some (.ret (exR v [x1,x2,x3,x4] em) (qai cs' N lg' k' (k'*2))):=by
 refine qab (pf:=F64) rfl rfl ?_
 simp only[qai,Su.d,Su.c,qbC,exR,qal,List.map] at h
 simp[F64,qai,Su.d,Su.c,qbC,exR,Wa,qAo,h,qal,qaI,qan]
theorem qBC (h:Z qaa (.call 105 [.iface 0 (.ptr 0 0),s.d,qbC n a b] (qai cs N lg k (k*2)))=some (.ret (exR v [x1,x2,x3,x4] em) (qai cs' N lg' k' (k'*2)))) :
  Z qaa (.call 64 [.int 20,.iface 0 (.ptr 0 0),s.d,qbC n a b] (qai cs N lg k (k*2)))=some (.ret (exR v [x1,x2,x3,x4] em) (qai cs' N lg' k' (k'*2))):=by
 refine qab (pf:=F64) rfl rfl ?_
 simp only[qai,Su.d,Su.c,qbC,exR,qal,List.map] at h
 simp[F64,qai,Su.d,Su.c,qbC,exR,Wa,qAp,h,qal,qaI,qan]
theorem qCk (h:Z qaa (.call 107 [.iface 0 (.ptr 0 0),s.d,qbC n a b] (qai cs N lg k (k*2)))=some (.ret (exR v [x1,x2,x3,x4] em) (qai cs' N lg' k' (k'*2)))) :
  Z qaa (.call 64 [.int 21,.iface 0 (.ptr 0 0),s.d,qbC n a b] (qai cs N lg k (k*2)))=some (.ret (exR v [x1,x2,x3,x4] em) (qai cs' N lg' k' (k'*2))):=by
 refine qab (pf:=F64) rfl rfl ?_
 simp only[qai,Su.d,Su.c,qbC,exR,qal,List.map] at h
 simp[F64,qai,Su.d,Su.c,qbC,exR,Wa,qAq,h,qal,qaI,qan]
end
theorem qoT (s:Su) (cs:List Int) (N:Nat) (lg:List D) (k:Nat) (op:Nat) (n a b:Int) (hs:s.ok) (hN:cs.length=N) (h:N=s.n) (hl:lg.length=k*2) (hk:k<2^29) (h1:1<=op) (h2:op<=21)
  (hn:operN op=0\/(0<=n/\n<operN op)) : ∃ lg' k',lg'.length=k'*2/\k'<=k+2 /\
  Z qaa (.call 64 [.int op,.iface 0 (.ptr 0 0),s.d,qbC n a b] (qai cs N lg k (k*2)))=some (.ret (exR (exV s cs op n a b) (exE cs op a b) (exB cs op)) (qai (exC s cs op n a b) N lg' k' (k'*2))):=by
 have h48:48<=N:=by rw[h]; unfold Su.n; omega
 have hk':k<2^30:=by omega
 have e0 : ∀ j,j≠20->exB cs j=false:=fun j hj=>by simp[exB,hj]
 have e1 : ∀ j,j≠20->exE cs j a b=[0,0,0,0]:=fun j hj=>by simp[exE,e0 j hj]
 match op,h1,h2 with
 |1,_,_=>
  rw[e0 1 (by decide),e1 1 (by decide)]
  exact⟨lg,k,hl,by omega,qCa ld1⟩
 |2,_,_=>
  rw[e0 2 (by decide),e1 2 (by decide)]
  have hn':0<=n/\n<16:=by simpa [operN] using hn
  exact⟨lg,k,hl,by omega,ex2 (ld2 hN h48 hn'.1 hn'.2)⟩
 |3,_,_=>
  rw[e0 3 (by decide),e1 3 (by decide)]
  have hn':0<=n/\n<16:=by simpa [operN] using hn
  exact⟨_,k+1,by simp[ent,hl]; omega,by omega,ex3 (ot1 hN h48 hl hk' hn'.1 hn'.2)⟩
 |4,_,_=>
  rw[e0 4 (by decide),e1 4 (by decide)]
  have hn':0<=n/\n<8:=by simpa [operN] using hn
  exact⟨lg,k,hl,by omega,ex4 (ot2 hs hN h hn'.1 hn'.2)⟩
 |5,_,_=>
  rw[e0 5 (by decide),e1 5 (by decide)]
  have hn':0<=n/\n<8:=by simpa [operN] using hn
  by_cases h3:bodyI s a<0
  ·have hc:exC s cs 5 n a b=cs:=by simp[exC,h3]
   rw[hc]
   exact⟨lg,k,hl,by omega,ex5 (qCA hs h3)⟩
  ·have hc:exC s cs 5 n a b=qao cs (bodyI s a+n) (qjz n b):=by simp[exC,h3]
   rw[hc]
   exact⟨_,k+1,by simp[ent,hl]; omega,by omega,ex5 (ot3 hs hN h hl hk' hn'.1 hn'.2 h3)⟩
 |6,_,_=>
  rw[e0 6 (by decide),e1 6 (by decide)]
  exact⟨lg,k,hl,by omega,ex6 (ld3 hN h48)⟩
 |7,_,_=>
  rw[e0 7 (by decide),e1 7 (by decide)]
  exact⟨lg,k,hl,by omega,ex7 (ld4 hN h48)⟩
 |8,_,_=>
  rw[e0 8 (by decide),e1 8 (by decide)]
  exact⟨lg,k,hl,by omega,ex8 (ld5 hN h48)⟩
 |9,_,_=>
  rw[e0 9 (by decide),e1 9 (by decide)]
  exact⟨lg,k,hl,by omega,ex9 (qmq a b (87,9) (by simp))⟩
 |10,_,_=>
  rw[e0 10 (by decide),e1 10 (by decide)]
  exact⟨lg,k,hl,by omega,qCb (qmq a b (89,10) (by simp))⟩
 |11,_,_=>
  rw[e0 11 (by decide),e1 11 (by decide)]
  exact⟨lg,k,hl,by omega,qCc (qmq a b (90,11) (by simp))⟩
 |12,_,_=>
  rw[e0 12 (by decide),e1 12 (by decide)]
  exact⟨lg,k,hl,by omega,qCd (qmq a b (91,12) (by simp))⟩
 |13,_,_=>
  rw[e0 13 (by decide),e1 13 (by decide)]
  exact⟨lg,k,hl,by omega,qCh (qBH a (96,13) (by simp))⟩
 |14,_,_=>
  rw[e0 14 (by decide),e1 14 (by decide)]
  exact⟨lg,k,hl,by omega,qCe (qmq a b (92,14) (by simp))⟩
 |15,_,_=>
  rw[e0 15 (by decide),e1 15 (by decide)]
  exact⟨lg,k,hl,by omega,qCf (qmq a b (94,15) (by simp))⟩
 |16,_,_=>
  rw[e0 16 (by decide),e1 16 (by decide)]
  exact⟨lg,k,hl,by omega,qCg (qmq a b (95,16) (by simp))⟩
 |17,_,_=>
  rw[e0 17 (by decide),e1 17 (by decide)]
  exact⟨lg,k,hl,by omega,qCi (qBH a (97,17) (by simp))⟩
 |18,_,_=>
  rw[e0 18 (by decide),e1 18 (by decide)]
  exact⟨_,k+1,by simp[ent,hl]; omega,by omega,qCj (ot4 hN h48 hl hk')⟩
 |19,_,_=>
  rw[e0 19 (by decide),e1 19 (by decide)]
  by_cases h3:a=0
  ·have hc:exC s cs 19 n a b=qao cs 6 n:=by simp[exC,h3]
   rw[hc]
   exact⟨_,k+1,by simp[ent,hl]; omega,by omega,qBB (ot5 hN h48 hl hk' h3)⟩
  ·have hc:exC s cs 19 n a b=cs:=by simp[exC,h3]
   rw[hc]
   exact⟨lg,k,hl,by omega,qBB (qCz h3)⟩
 |20,_,_=>
  by_cases h3:40<=getI cs 11
  ·have hc:exC s cs 20 n a b=cs:=by simp[exC,h3]
   have hb:exB cs 20=false:=by simp[exB]; omega
   rw[hc,exE,hb]
   exact⟨lg,k,hl,by omega,qBC (ot6 (qyy hN h48 h3))⟩
  ·have hc:exC s cs 20 n a b=qao (qao cs 12 (qub cs a b)) 11 (wr (getI cs 11+1)):=by simp[exC,h3]
   have hb:exB cs 20=true:=by simp[exB]; omega
   obtain⟨lg',hl',he⟩:=qyz (a:=a) (b:=b) hN h48 hl hk h3
   rw[hc,exE,hb]
   exact⟨lg',k+2,hl',by omega,qBC (ot6 he)⟩
 |21,_,_=>
  rw[e0 21 (by decide),e1 21 (by decide)]
  exact⟨lg,k,hl,by omega,qCk ot7⟩
 |n+22,_,h=>exact absurd h (by omega)
end
section
open F
def qbO(c:List (Nat × Int)):List D:=c.flatMap fun x=>[.lit (.int .i64 x.1),.lit (.int .i64 x.2)]
def codeDV(f:Bool):List (Nat × Int)->D
 |[] => .lit (.slice none 0 0)
 |x::c => .sl (qbO (x::c)) (x::c).length f
@[simp] theorem qyG(σ : S)(f:Bool)(c:List (Nat × Int)):V.len σ .sl (.dat (codeDV f c))=some c.length:=by
 cases c<;>simp[codeDV,V.len]
@[simp] theorem qyH(f:Bool)(c:List (Nat × Int)):V.one (.dat (codeDV f c))=true:=by cases c<;>rfl
@[simp] theorem qv6(f:Bool)(c:List (Nat × Int)):V.cells (.dat (codeDV f c))=[.dat (codeDV f c)]:=by cases c<;>rfl
theorem qfx(f:Bool)(c:List (Nat × Int))(i:Int)(h0:0<=i)(h1:i<c.length):qae 2 (.dat (codeDV f c)) i=some (.dat (.imm (qbO c) (i.toNat*2))):=by
 cases c with
 |nil=>simp at h1; omega
 |cons x c=>simp only[We] at h1; simp[codeDV,qae,h0]; omega
theorem qou(c:List (Nat × Int))(i:Nat):(qbO c).drop (i*2)=qbO (c.drop i):=by
 induction i generalizing c with
 |zero=>simp
 |succ i ih=>
  cases c with
  |nil=>simp[qbO]
  |cons x c=>
   rw[show (i+1)*2=i*2+2 by omega]
   simp only[qbO,List.flatMap_cons,Wi,Wc,YE] at ih ⊢
   exact ih c
theorem qdx(c:List (Nat × Int))(i:Nat)(h:i<c.length):qah (qbO c) (i*2) 2=some [.lit (.int .i64 c[i].1),.lit (.int .i64 c[i].2)]:=by
 unfold qah
 rw[qou,WF h]
 have e:qbO (c[i]::c.drop (i+1)) = .lit (.int .i64 c[i].1) :: .lit (.int .i64 c[i].2)::qbO (c.drop (i+1)):=rfl
 rw[e]
 rfl
def qaq(f:Bool)(c:List (Nat × Int))(e0 e1 e2:Int):V := .dat (.agg [codeDV f c,.lit (.int .i64 e0),.lit (.int .i64 e1),.lit (.int .i64 e2)])
section
variable{s:Su}{cs cs1 cs2 cs3 cs4 cs5:List Int}{N:Nat}{lg lg1 lg2 lg3 lg4 lg5:List D}{k k1 k2 k3 k4 k5 t t1 t2 t3 t4 t5 op:Nat}{c:List (Nat × Int)}{f:Bool}{e0 e1 e2 n a b v fuel pc sp w8 w6 w7 bt x1 x2 x3 x4:Int}{em:Bool}
set_option maxHeartbeats 8000000 in
theorem qsI (g6:Z qaa (.call 51 [.ptr 0 0,.int 6] (qaA cs N))=some (.ret (.int pc) (qaA cs N)))
  (g7:Z qaa (.call 51 [.ptr 0 0,.int 7] (qaA cs N))=some (.ret (.int sp) (qaA cs N)))
  (g8:Z qaa (.call 51 [.ptr 0 0,.int 8] (qaA cs N))=some (.ret (.int fuel) (qaA cs N)))
  (hf : ¬ fuel<1) (hp0 : ¬ pc<0) (hp1 : ¬ (c.length:Int)<=pc)
  (hc:qae 2 (.dat (codeDV f c)) pc=some (.dat (.imm (qbO c) (pc.toNat*2)))) (hc2:qah (qbO c) (pc.toNat*2) 2=some [.lit (.int .i64 op),.lit (.int .i64 n)])
  (hx:Z qaa (.call 63 [.dat (.agg [.lit (.int .i64 op),.lit (.int .i64 n)]),.int sp] [])=some (.ret (.bool true) [])) (hop:(op:Int)<22)
  (hP:qah G_arenanet_vm_effects (op*3) 1=some [.lit (.int .i64 0)]) (hQ:qah G_arenanet_vm_effects (op*3+1) 1=some [.lit (.int .i64 1)])
  (wa:wr (16+sp)=16+sp) (wb:16+sp=bt) (wa2:wr bt=bt) (wf:wr (fuel-1)=w8) (wp:wr (pc+1)=w6)
  (s8:Z qaa (.call 114 [.ptr 0 0,.int 8,.int w8] (qaA cs N))=some (.ret (.tup []) (qai cs1 N lg1 k1 t1)))
  (s6:Z qaa (.call 114 [.ptr 0 0,.int 6,.int w6] (qai cs1 N lg1 k1 t1))=some (.ret (.tup []) (qai cs2 N lg2 k2 t2)))
  (wd:wr sp=sp) (we:wr (sp+1)=w7)
  (s7:Z qaa (.call 114 [.ptr 0 0,.int 7,.int w7] (qai cs2 N lg2 k2 t2))=some (.ret (.tup []) (qai cs3 N lg3 k3 t3)))
  (hex:Z qaa (.call 64 [.int op,.iface 0 (.ptr 0 0),s.d,qbC n 0 0] (qai cs3 N lg3 k3 t3))=some (.ret (exR v [x1,x2,x3,x4] em) (qai cs4 N lg4 k4 t4)))
  (sv:Z qaa (.call 114 [.ptr 0 0,.int bt,.int v] (qai cs4 N lg4 k4 t4))=some (.ret (.tup []) (qai cs5 N lg5 k5 t5))) :
  Z qaa (.call 52 [.iface 0 (.ptr 0 0),s.d,qaq f c e0 e1 e2] (qaA cs N))=some (.ret (.tup [.bool (decide ((op:Int)=21)),.dat (.agg (qal [x1,x2,x3,x4])),.bool em]) (qai cs5 N lg5 k5 t5)):=by
 refine qab (pf:=F52) rfl rfl ?_
 have hP':=hP; have hQ':=hQ
 simp only[qaA,qai,Su.d,Su.c,qbC,exR,qal,List.map] at g6 g7 g8 s8 s6 hex s7 sv
 simp (maxSteps:=5000000) [F52,qaA,qai,Su.d,Su.c,qaq,qbC,exR,Wa,qal,qaI,qan,g6,g7,g8,hf,hp0,hp1,hc,hc2,hx,hop,hP',hQ',wa,wb,wf,wp,s8,s6,hex,wa2,wd,we,s7,sv]
set_option maxHeartbeats 8000000 in
theorem qsJ (g6:Z qaa (.call 51 [.ptr 0 0,.int 6] (qaA cs N))=some (.ret (.int pc) (qaA cs N)))
  (g7:Z qaa (.call 51 [.ptr 0 0,.int 7] (qaA cs N))=some (.ret (.int sp) (qaA cs N)))
  (g8:Z qaa (.call 51 [.ptr 0 0,.int 8] (qaA cs N))=some (.ret (.int fuel) (qaA cs N)))
  (hf : ¬ fuel<1) (hp0 : ¬ pc<0) (hp1 : ¬ (c.length:Int)<=pc)
  (hc:qae 2 (.dat (codeDV f c)) pc=some (.dat (.imm (qbO c) (pc.toNat*2)))) (hc2:qah (qbO c) (pc.toNat*2) 2=some [.lit (.int .i64 op),.lit (.int .i64 n)])
  (hx:Z qaa (.call 63 [.dat (.agg [.lit (.int .i64 op),.lit (.int .i64 n)]),.int sp] [])=some (.ret (.bool true) [])) (hop:(op:Int)<22)
  (hP:qah G_arenanet_vm_effects (op*3) 1=some [.lit (.int .i64 1)]) (hQ:qah G_arenanet_vm_effects (op*3+1) 1=some [.lit (.int .i64 0)])
  (wa:wr (16+sp)=16+sp) (wb:wr (16+sp-1)=bt) (wf:wr (fuel-1)=w8) (wp:wr (pc+1)=w6)
  (ga:Z qaa (.call 51 [.ptr 0 0,.int bt] (qaA cs N))=some (.ret (.int a) (qaA cs N)))
  (s8:Z qaa (.call 114 [.ptr 0 0,.int 8,.int w8] (qaA cs N))=some (.ret (.tup []) (qai cs1 N lg1 k1 t1)))
  (s6:Z qaa (.call 114 [.ptr 0 0,.int 6,.int w6] (qai cs1 N lg1 k1 t1))=some (.ret (.tup []) (qai cs2 N lg2 k2 t2)))
  (wd:wr w7=w7) (we:sp-1=w7)
  (s7:Z qaa (.call 114 [.ptr 0 0,.int 7,.int w7] (qai cs2 N lg2 k2 t2))=some (.ret (.tup []) (qai cs3 N lg3 k3 t3)))
  (hex:Z qaa (.call 64 [.int op,.iface 0 (.ptr 0 0),s.d,qbC n a 0] (qai cs3 N lg3 k3 t3))=some (.ret (exR v [x1,x2,x3,x4] em) (qai cs4 N lg4 k4 t4))) :
  Z qaa (.call 52 [.iface 0 (.ptr 0 0),s.d,qaq f c e0 e1 e2] (qaA cs N))=some (.ret (.tup [.bool (decide ((op:Int)=21)),.dat (.agg (qal [x1,x2,x3,x4])),.bool em]) (qai cs4 N lg4 k4 t4)):=by
 refine qab (pf:=F52) rfl rfl ?_
 have hP':=hP; have hQ':=hQ
 simp only[qaA,qai,Su.d,Su.c,qbC,exR,qal,List.map] at g6 g7 g8 s8 s6 hex ga s7
 simp (maxSteps:=5000000) [F52,qaA,qai,Su.d,Su.c,qaq,qbC,exR,Wa,qal,qaI,qan,g6,g7,g8,hf,hp0,hp1,hc,hc2,hx,hop,hP',hQ',wa,wb,wf,wp,s8,s6,hex,ga,wd,we,s7]
set_option maxHeartbeats 8000000 in
theorem qsK (g6:Z qaa (.call 51 [.ptr 0 0,.int 6] (qaA cs N))=some (.ret (.int pc) (qaA cs N)))
  (g7:Z qaa (.call 51 [.ptr 0 0,.int 7] (qaA cs N))=some (.ret (.int sp) (qaA cs N)))
  (g8:Z qaa (.call 51 [.ptr 0 0,.int 8] (qaA cs N))=some (.ret (.int fuel) (qaA cs N)))
  (hf : ¬ fuel<1) (hp0 : ¬ pc<0) (hp1 : ¬ (c.length:Int)<=pc)
  (hc:qae 2 (.dat (codeDV f c)) pc=some (.dat (.imm (qbO c) (pc.toNat*2)))) (hc2:qah (qbO c) (pc.toNat*2) 2=some [.lit (.int .i64 op),.lit (.int .i64 n)])
  (hx:Z qaa (.call 63 [.dat (.agg [.lit (.int .i64 op),.lit (.int .i64 n)]),.int sp] [])=some (.ret (.bool true) [])) (hop:(op:Int)<22)
  (hP:qah G_arenanet_vm_effects (op*3) 1=some [.lit (.int .i64 1)]) (hQ:qah G_arenanet_vm_effects (op*3+1) 1=some [.lit (.int .i64 1)])
  (wa:wr (16+sp)=16+sp) (wb:wr (16+sp-1)=bt) (wf:wr (fuel-1)=w8) (wp:wr (pc+1)=w6)
  (ga:Z qaa (.call 51 [.ptr 0 0,.int bt] (qaA cs N))=some (.ret (.int a) (qaA cs N)))
  (s8:Z qaa (.call 114 [.ptr 0 0,.int 8,.int w8] (qaA cs N))=some (.ret (.tup []) (qai cs1 N lg1 k1 t1)))
  (s6:Z qaa (.call 114 [.ptr 0 0,.int 6,.int w6] (qai cs1 N lg1 k1 t1))=some (.ret (.tup []) (qai cs2 N lg2 k2 t2)))
  (hex:Z qaa (.call 64 [.int op,.iface 0 (.ptr 0 0),s.d,qbC n a 0] (qai cs2 N lg2 k2 t2))=some (.ret (exR v [x1,x2,x3,x4] em) (qai cs4 N lg4 k4 t4)))
  (sv:Z qaa (.call 114 [.ptr 0 0,.int bt,.int v] (qai cs4 N lg4 k4 t4))=some (.ret (.tup []) (qai cs5 N lg5 k5 t5))) :
  Z qaa (.call 52 [.iface 0 (.ptr 0 0),s.d,qaq f c e0 e1 e2] (qaA cs N))=some (.ret (.tup [.bool (decide ((op:Int)=21)),.dat (.agg (qal [x1,x2,x3,x4])),.bool em]) (qai cs5 N lg5 k5 t5)):=by
 refine qab (pf:=F52) rfl rfl ?_
 have hP':=hP; have hQ':=hQ
 simp only[qaA,qai,Su.d,Su.c,qbC,exR,qal,List.map] at g6 g7 g8 s8 s6 hex ga sv
 simp (maxSteps:=5000000) [F52,qaA,qai,Su.d,Su.c,qaq,qbC,exR,Wa,qal,qaI,qan,g6,g7,g8,hf,hp0,hp1,hc,hc2,hx,hop,hP',hQ',wa,wb,wf,wp,s8,s6,hex,ga,sv]
set_option maxHeartbeats 8000000 in
theorem qsL (g6:Z qaa (.call 51 [.ptr 0 0,.int 6] (qaA cs N))=some (.ret (.int pc) (qaA cs N)))
  (g7:Z qaa (.call 51 [.ptr 0 0,.int 7] (qaA cs N))=some (.ret (.int sp) (qaA cs N)))
  (g8:Z qaa (.call 51 [.ptr 0 0,.int 8] (qaA cs N))=some (.ret (.int fuel) (qaA cs N)))
  (hf : ¬ fuel<1) (hp0 : ¬ pc<0) (hp1 : ¬ (c.length:Int)<=pc)
  (hc:qae 2 (.dat (codeDV f c)) pc=some (.dat (.imm (qbO c) (pc.toNat*2)))) (hc2:qah (qbO c) (pc.toNat*2) 2=some [.lit (.int .i64 op),.lit (.int .i64 n)])
  (hx:Z qaa (.call 63 [.dat (.agg [.lit (.int .i64 op),.lit (.int .i64 n)]),.int sp] [])=some (.ret (.bool true) [])) (hop:(op:Int)<22)
  (hP:qah G_arenanet_vm_effects (op*3) 1=some [.lit (.int .i64 2)]) (hQ:qah G_arenanet_vm_effects (op*3+1) 1=some [.lit (.int .i64 0)])
  (wa:wr (16+sp)=16+sp) (wb:wr (16+sp-2)=bt) (wf:wr (fuel-1)=w8) (wp:wr (pc+1)=w6)
  (ga:Z qaa (.call 51 [.ptr 0 0,.int bt] (qaA cs N))=some (.ret (.int a) (qaA cs N)))
  (wc:wr (bt+1)=bt+1) (gb:Z qaa (.call 51 [.ptr 0 0,.int (bt+1)] (qaA cs N))=some (.ret (.int b) (qaA cs N)))
  (s8:Z qaa (.call 114 [.ptr 0 0,.int 8,.int w8] (qaA cs N))=some (.ret (.tup []) (qai cs1 N lg1 k1 t1)))
  (s6:Z qaa (.call 114 [.ptr 0 0,.int 6,.int w6] (qai cs1 N lg1 k1 t1))=some (.ret (.tup []) (qai cs2 N lg2 k2 t2)))
  (wd:wr w7=w7) (we:sp-2=w7)
  (s7:Z qaa (.call 114 [.ptr 0 0,.int 7,.int w7] (qai cs2 N lg2 k2 t2))=some (.ret (.tup []) (qai cs3 N lg3 k3 t3)))
  (hex:Z qaa (.call 64 [.int op,.iface 0 (.ptr 0 0),s.d,qbC n a b] (qai cs3 N lg3 k3 t3))=some (.ret (exR v [x1,x2,x3,x4] em) (qai cs4 N lg4 k4 t4))) :
  Z qaa (.call 52 [.iface 0 (.ptr 0 0),s.d,qaq f c e0 e1 e2] (qaA cs N))=some (.ret (.tup [.bool (decide ((op:Int)=21)),.dat (.agg (qal [x1,x2,x3,x4])),.bool em]) (qai cs4 N lg4 k4 t4)):=by
 refine qab (pf:=F52) rfl rfl ?_
 have hP':=hP; have hQ':=hQ
 simp only[qaA,qai,Su.d,Su.c,qbC,exR,qal,List.map] at g6 g7 g8 s8 s6 hex ga gb s7
 simp (maxSteps:=5000000) [F52,qaA,qai,Su.d,Su.c,qaq,qbC,exR,Wa,qal,qaI,qan,g6,g7,g8,hf,hp0,hp1,hc,hc2,hx,hop,hP',hQ',wa,wb,wf,wp,s8,s6,hex,ga,wc,gb,wd,we,s7]
set_option maxHeartbeats 8000000 in
theorem qsM (g6:Z qaa (.call 51 [.ptr 0 0,.int 6] (qaA cs N))=some (.ret (.int pc) (qaA cs N)))
  (g7:Z qaa (.call 51 [.ptr 0 0,.int 7] (qaA cs N))=some (.ret (.int sp) (qaA cs N)))
  (g8:Z qaa (.call 51 [.ptr 0 0,.int 8] (qaA cs N))=some (.ret (.int fuel) (qaA cs N)))
  (hf : ¬ fuel<1) (hp0 : ¬ pc<0) (hp1 : ¬ (c.length:Int)<=pc)
  (hc:qae 2 (.dat (codeDV f c)) pc=some (.dat (.imm (qbO c) (pc.toNat*2)))) (hc2:qah (qbO c) (pc.toNat*2) 2=some [.lit (.int .i64 op),.lit (.int .i64 n)])
  (hx:Z qaa (.call 63 [.dat (.agg [.lit (.int .i64 op),.lit (.int .i64 n)]),.int sp] [])=some (.ret (.bool true) [])) (hop:(op:Int)<22)
  (hP:qah G_arenanet_vm_effects (op*3) 1=some [.lit (.int .i64 2)]) (hQ:qah G_arenanet_vm_effects (op*3+1) 1=some [.lit (.int .i64 1)])
  (wa:wr (16+sp)=16+sp) (wb:wr (16+sp-2)=bt) (wf:wr (fuel-1)=w8) (wp:wr (pc+1)=w6)
  (ga:Z qaa (.call 51 [.ptr 0 0,.int bt] (qaA cs N))=some (.ret (.int a) (qaA cs N)))
  (wc:wr (bt+1)=bt+1) (gb:Z qaa (.call 51 [.ptr 0 0,.int (bt+1)] (qaA cs N))=some (.ret (.int b) (qaA cs N)))
  (s8:Z qaa (.call 114 [.ptr 0 0,.int 8,.int w8] (qaA cs N))=some (.ret (.tup []) (qai cs1 N lg1 k1 t1)))
  (s6:Z qaa (.call 114 [.ptr 0 0,.int 6,.int w6] (qai cs1 N lg1 k1 t1))=some (.ret (.tup []) (qai cs2 N lg2 k2 t2)))
  (wd:wr (sp-2)=sp-2) (we:wr (sp-2+1)=w7)
  (s7:Z qaa (.call 114 [.ptr 0 0,.int 7,.int w7] (qai cs2 N lg2 k2 t2))=some (.ret (.tup []) (qai cs3 N lg3 k3 t3)))
  (hex:Z qaa (.call 64 [.int op,.iface 0 (.ptr 0 0),s.d,qbC n a b] (qai cs3 N lg3 k3 t3))=some (.ret (exR v [x1,x2,x3,x4] em) (qai cs4 N lg4 k4 t4)))
  (sv:Z qaa (.call 114 [.ptr 0 0,.int bt,.int v] (qai cs4 N lg4 k4 t4))=some (.ret (.tup []) (qai cs5 N lg5 k5 t5))) :
  Z qaa (.call 52 [.iface 0 (.ptr 0 0),s.d,qaq f c e0 e1 e2] (qaA cs N))=some (.ret (.tup [.bool (decide ((op:Int)=21)),.dat (.agg (qal [x1,x2,x3,x4])),.bool em]) (qai cs5 N lg5 k5 t5)):=by
 refine qab (pf:=F52) rfl rfl ?_
 have hP':=hP; have hQ':=hQ
 simp only[qaA,qai,Su.d,Su.c,qbC,exR,qal,List.map] at g6 g7 g8 s8 s6 hex ga gb s7 sv
 simp (maxSteps:=5000000) [F52,qaA,qai,Su.d,Su.c,qaq,qbC,exR,Wa,qal,qaI,qan,g6,g7,g8,hf,hp0,hp1,hc,hc2,hx,hop,hP',hQ',wa,wb,wf,wp,s8,s6,hex,ga,wc,gb,wd,we,s7,sv]
set_option maxHeartbeats 8000000 in
theorem qsN (g6:Z qaa (.call 51 [.ptr 0 0,.int 6] (qaA cs N))=some (.ret (.int pc) (qaA cs N)))
  (g7:Z qaa (.call 51 [.ptr 0 0,.int 7] (qaA cs N))=some (.ret (.int sp) (qaA cs N)))
  (g8:Z qaa (.call 51 [.ptr 0 0,.int 8] (qaA cs N))=some (.ret (.int fuel) (qaA cs N)))
  (hf : ¬ fuel<1) (hp0 : ¬ pc<0) (hp1 : ¬ (c.length:Int)<=pc)
  (hc:qae 2 (.dat (codeDV f c)) pc=some (.dat (.imm (qbO c) (pc.toNat*2)))) (hc2:qah (qbO c) (pc.toNat*2) 2=some [.lit (.int .i64 op),.lit (.int .i64 n)])
  (hx:Z qaa (.call 63 [.dat (.agg [.lit (.int .i64 op),.lit (.int .i64 n)]),.int sp] [])=some (.ret (.bool true) [])) (hop:(op:Int)<22)
  (hP:qah G_arenanet_vm_effects (op*3) 1=some [.lit (.int .i64 0)]) (hQ:qah G_arenanet_vm_effects (op*3+1) 1=some [.lit (.int .i64 0)])
  (wa:wr (16+sp)=16+sp) (wb:16+sp=bt) (wa2:wr bt=bt) (wf:wr (fuel-1)=w8) (wp:wr (pc+1)=w6)
  (s8:Z qaa (.call 114 [.ptr 0 0,.int 8,.int w8] (qaA cs N))=some (.ret (.tup []) (qai cs1 N lg1 k1 t1)))
  (s6:Z qaa (.call 114 [.ptr 0 0,.int 6,.int w6] (qai cs1 N lg1 k1 t1))=some (.ret (.tup []) (qai cs2 N lg2 k2 t2)))
  (hex:Z qaa (.call 64 [.int op,.iface 0 (.ptr 0 0),s.d,qbC n 0 0] (qai cs2 N lg2 k2 t2))=some (.ret (exR v [x1,x2,x3,x4] em) (qai cs4 N lg4 k4 t4))) :
  Z qaa (.call 52 [.iface 0 (.ptr 0 0),s.d,qaq f c e0 e1 e2] (qaA cs N))=some (.ret (.tup [.bool (decide ((op:Int)=21)),.dat (.agg (qal [x1,x2,x3,x4])),.bool em]) (qai cs4 N lg4 k4 t4)):=by
 refine qab (pf:=F52) rfl rfl ?_
 have hP':=hP; have hQ':=hQ
 simp only[qaA,qai,Su.d,Su.c,qbC,exR,qal,List.map] at g6 g7 g8 s8 s6 hex
 simp (maxSteps:=5000000) [F52,qaA,qai,Su.d,Su.c,qaq,qbC,exR,Wa,qal,qaI,qan,g6,g7,g8,hf,hp0,hp1,hc,hc2,hx,hop,hP',hQ',wa,wb,wf,wp,s8,s6,hex,wa2]
set_option maxHeartbeats 8000000 in
theorem qsO (g6:Z qaa (.call 51 [.ptr 0 0,.int 6] (qai cs N lg k t))=some (.ret (.int pc) (qai cs N lg k t)))
  (g7:Z qaa (.call 51 [.ptr 0 0,.int 7] (qai cs N lg k t))=some (.ret (.int sp) (qai cs N lg k t)))
  (g8:Z qaa (.call 51 [.ptr 0 0,.int 8] (qai cs N lg k t))=some (.ret (.int fuel) (qai cs N lg k t)))
  (hf : ¬ fuel<1) (hp0 : ¬ pc<0) (hp1 : ¬ (c.length:Int)<=pc)
  (hc:qae 2 (.dat (codeDV f c)) pc=some (.dat (.imm (qbO c) (pc.toNat*2)))) (hc2:qah (qbO c) (pc.toNat*2) 2=some [.lit (.int .i64 op),.lit (.int .i64 n)])
  (hx:Z qaa (.call 63 [.dat (.agg [.lit (.int .i64 op),.lit (.int .i64 n)]),.int sp] [])=some (.ret (.bool true) [])) (hop:(op:Int)<22)
  (hP:qah G_arenanet_vm_effects (op*3) 1=some [.lit (.int .i64 0)]) (hQ:qah G_arenanet_vm_effects (op*3+1) 1=some [.lit (.int .i64 1)])
  (wa:wr (16+sp)=16+sp) (wb:16+sp=bt) (wa2:wr bt=bt) (wf:wr (fuel-1)=w8) (wp:wr (pc+1)=w6)
  (s8:Z qaa (.call 114 [.ptr 0 0,.int 8,.int w8] (qai cs N lg k t))=some (.ret (.tup []) (qai cs1 N lg1 k1 t1)))
  (s6:Z qaa (.call 114 [.ptr 0 0,.int 6,.int w6] (qai cs1 N lg1 k1 t1))=some (.ret (.tup []) (qai cs2 N lg2 k2 t2)))
  (wd:wr sp=sp) (we:wr (sp+1)=w7)
  (s7:Z qaa (.call 114 [.ptr 0 0,.int 7,.int w7] (qai cs2 N lg2 k2 t2))=some (.ret (.tup []) (qai cs3 N lg3 k3 t3)))
  (hex:Z qaa (.call 64 [.int op,.iface 0 (.ptr 0 0),s.d,qbC n 0 0] (qai cs3 N lg3 k3 t3))=some (.ret (exR v [x1,x2,x3,x4] em) (qai cs4 N lg4 k4 t4)))
  (sv:Z qaa (.call 114 [.ptr 0 0,.int bt,.int v] (qai cs4 N lg4 k4 t4))=some (.ret (.tup []) (qai cs5 N lg5 k5 t5))) :
  Z qaa (.call 52 [.iface 0 (.ptr 0 0),s.d,qaq f c e0 e1 e2] (qai cs N lg k t))=some (.ret (.tup [.bool (decide ((op:Int)=21)),.dat (.agg (qal [x1,x2,x3,x4])),.bool em]) (qai cs5 N lg5 k5 t5)):=by
 refine qab (pf:=F52) rfl rfl ?_
 have hP':=hP; have hQ':=hQ
 simp only[qaA,qai,Su.d,Su.c,qbC,exR,qal,List.map] at g6 g7 g8 s8 s6 hex s7 sv
 simp (maxSteps:=5000000) [F52,qaA,qai,Su.d,Su.c,qaq,qbC,exR,Wa,qal,qaI,qan,g6,g7,g8,hf,hp0,hp1,hc,hc2,hx,hop,hP',hQ',wa,wb,wf,wp,s8,s6,hex,wa2,wd,we,s7,sv]
set_option maxHeartbeats 8000000 in
theorem qsP (g6:Z qaa (.call 51 [.ptr 0 0,.int 6] (qai cs N lg k t))=some (.ret (.int pc) (qai cs N lg k t)))
  (g7:Z qaa (.call 51 [.ptr 0 0,.int 7] (qai cs N lg k t))=some (.ret (.int sp) (qai cs N lg k t)))
  (g8:Z qaa (.call 51 [.ptr 0 0,.int 8] (qai cs N lg k t))=some (.ret (.int fuel) (qai cs N lg k t)))
  (hf : ¬ fuel<1) (hp0 : ¬ pc<0) (hp1 : ¬ (c.length:Int)<=pc)
  (hc:qae 2 (.dat (codeDV f c)) pc=some (.dat (.imm (qbO c) (pc.toNat*2)))) (hc2:qah (qbO c) (pc.toNat*2) 2=some [.lit (.int .i64 op),.lit (.int .i64 n)])
  (hx:Z qaa (.call 63 [.dat (.agg [.lit (.int .i64 op),.lit (.int .i64 n)]),.int sp] [])=some (.ret (.bool true) [])) (hop:(op:Int)<22)
  (hP:qah G_arenanet_vm_effects (op*3) 1=some [.lit (.int .i64 1)]) (hQ:qah G_arenanet_vm_effects (op*3+1) 1=some [.lit (.int .i64 0)])
  (wa:wr (16+sp)=16+sp) (wb:wr (16+sp-1)=bt) (wf:wr (fuel-1)=w8) (wp:wr (pc+1)=w6)
  (ga:Z qaa (.call 51 [.ptr 0 0,.int bt] (qai cs N lg k t))=some (.ret (.int a) (qai cs N lg k t)))
  (s8:Z qaa (.call 114 [.ptr 0 0,.int 8,.int w8] (qai cs N lg k t))=some (.ret (.tup []) (qai cs1 N lg1 k1 t1)))
  (s6:Z qaa (.call 114 [.ptr 0 0,.int 6,.int w6] (qai cs1 N lg1 k1 t1))=some (.ret (.tup []) (qai cs2 N lg2 k2 t2)))
  (wd:wr w7=w7) (we:sp-1=w7)
  (s7:Z qaa (.call 114 [.ptr 0 0,.int 7,.int w7] (qai cs2 N lg2 k2 t2))=some (.ret (.tup []) (qai cs3 N lg3 k3 t3)))
  (hex:Z qaa (.call 64 [.int op,.iface 0 (.ptr 0 0),s.d,qbC n a 0] (qai cs3 N lg3 k3 t3))=some (.ret (exR v [x1,x2,x3,x4] em) (qai cs4 N lg4 k4 t4))) :
  Z qaa (.call 52 [.iface 0 (.ptr 0 0),s.d,qaq f c e0 e1 e2] (qai cs N lg k t))=some (.ret (.tup [.bool (decide ((op:Int)=21)),.dat (.agg (qal [x1,x2,x3,x4])),.bool em]) (qai cs4 N lg4 k4 t4)):=by
 refine qab (pf:=F52) rfl rfl ?_
 have hP':=hP; have hQ':=hQ
 simp only[qaA,qai,Su.d,Su.c,qbC,exR,qal,List.map] at g6 g7 g8 s8 s6 hex ga s7
 simp (maxSteps:=5000000) [F52,qaA,qai,Su.d,Su.c,qaq,qbC,exR,Wa,qal,qaI,qan,g6,g7,g8,hf,hp0,hp1,hc,hc2,hx,hop,hP',hQ',wa,wb,wf,wp,s8,s6,hex,ga,wd,we,s7]
set_option maxHeartbeats 8000000 in
theorem qsQ (g6:Z qaa (.call 51 [.ptr 0 0,.int 6] (qai cs N lg k t))=some (.ret (.int pc) (qai cs N lg k t)))
  (g7:Z qaa (.call 51 [.ptr 0 0,.int 7] (qai cs N lg k t))=some (.ret (.int sp) (qai cs N lg k t)))
  (g8:Z qaa (.call 51 [.ptr 0 0,.int 8] (qai cs N lg k t))=some (.ret (.int fuel) (qai cs N lg k t)))
  (hf : ¬ fuel<1) (hp0 : ¬ pc<0) (hp1 : ¬ (c.length:Int)<=pc)
  (hc:qae 2 (.dat (codeDV f c)) pc=some (.dat (.imm (qbO c) (pc.toNat*2)))) (hc2:qah (qbO c) (pc.toNat*2) 2=some [.lit (.int .i64 op),.lit (.int .i64 n)])
  (hx:Z qaa (.call 63 [.dat (.agg [.lit (.int .i64 op),.lit (.int .i64 n)]),.int sp] [])=some (.ret (.bool true) [])) (hop:(op:Int)<22)
  (hP:qah G_arenanet_vm_effects (op*3) 1=some [.lit (.int .i64 1)]) (hQ:qah G_arenanet_vm_effects (op*3+1) 1=some [.lit (.int .i64 1)])
  (wa:wr (16+sp)=16+sp) (wb:wr (16+sp-1)=bt) (wf:wr (fuel-1)=w8) (wp:wr (pc+1)=w6)
  (ga:Z qaa (.call 51 [.ptr 0 0,.int bt] (qai cs N lg k t))=some (.ret (.int a) (qai cs N lg k t)))
  (s8:Z qaa (.call 114 [.ptr 0 0,.int 8,.int w8] (qai cs N lg k t))=some (.ret (.tup []) (qai cs1 N lg1 k1 t1)))
  (s6:Z qaa (.call 114 [.ptr 0 0,.int 6,.int w6] (qai cs1 N lg1 k1 t1))=some (.ret (.tup []) (qai cs2 N lg2 k2 t2)))
  (hex:Z qaa (.call 64 [.int op,.iface 0 (.ptr 0 0),s.d,qbC n a 0] (qai cs2 N lg2 k2 t2))=some (.ret (exR v [x1,x2,x3,x4] em) (qai cs4 N lg4 k4 t4)))
  (sv:Z qaa (.call 114 [.ptr 0 0,.int bt,.int v] (qai cs4 N lg4 k4 t4))=some (.ret (.tup []) (qai cs5 N lg5 k5 t5))) :
  Z qaa (.call 52 [.iface 0 (.ptr 0 0),s.d,qaq f c e0 e1 e2] (qai cs N lg k t))=some (.ret (.tup [.bool (decide ((op:Int)=21)),.dat (.agg (qal [x1,x2,x3,x4])),.bool em]) (qai cs5 N lg5 k5 t5)):=by
 refine qab (pf:=F52) rfl rfl ?_
 have hP':=hP; have hQ':=hQ
 simp only[qaA,qai,Su.d,Su.c,qbC,exR,qal,List.map] at g6 g7 g8 s8 s6 hex ga sv
 simp (maxSteps:=5000000) [F52,qaA,qai,Su.d,Su.c,qaq,qbC,exR,Wa,qal,qaI,qan,g6,g7,g8,hf,hp0,hp1,hc,hc2,hx,hop,hP',hQ',wa,wb,wf,wp,s8,s6,hex,ga,sv]
set_option maxHeartbeats 8000000 in
theorem qsR (g6:Z qaa (.call 51 [.ptr 0 0,.int 6] (qai cs N lg k t))=some (.ret (.int pc) (qai cs N lg k t)))
  (g7:Z qaa (.call 51 [.ptr 0 0,.int 7] (qai cs N lg k t))=some (.ret (.int sp) (qai cs N lg k t)))
  (g8:Z qaa (.call 51 [.ptr 0 0,.int 8] (qai cs N lg k t))=some (.ret (.int fuel) (qai cs N lg k t)))
  (hf : ¬ fuel<1) (hp0 : ¬ pc<0) (hp1 : ¬ (c.length:Int)<=pc)
  (hc:qae 2 (.dat (codeDV f c)) pc=some (.dat (.imm (qbO c) (pc.toNat*2)))) (hc2:qah (qbO c) (pc.toNat*2) 2=some [.lit (.int .i64 op),.lit (.int .i64 n)])
  (hx:Z qaa (.call 63 [.dat (.agg [.lit (.int .i64 op),.lit (.int .i64 n)]),.int sp] [])=some (.ret (.bool true) [])) (hop:(op:Int)<22)
  (hP:qah G_arenanet_vm_effects (op*3) 1=some [.lit (.int .i64 2)]) (hQ:qah G_arenanet_vm_effects (op*3+1) 1=some [.lit (.int .i64 0)])
  (wa:wr (16+sp)=16+sp) (wb:wr (16+sp-2)=bt) (wf:wr (fuel-1)=w8) (wp:wr (pc+1)=w6)
  (ga:Z qaa (.call 51 [.ptr 0 0,.int bt] (qai cs N lg k t))=some (.ret (.int a) (qai cs N lg k t)))
  (wc:wr (bt+1)=bt+1) (gb:Z qaa (.call 51 [.ptr 0 0,.int (bt+1)] (qai cs N lg k t))=some (.ret (.int b) (qai cs N lg k t)))
  (s8:Z qaa (.call 114 [.ptr 0 0,.int 8,.int w8] (qai cs N lg k t))=some (.ret (.tup []) (qai cs1 N lg1 k1 t1)))
  (s6:Z qaa (.call 114 [.ptr 0 0,.int 6,.int w6] (qai cs1 N lg1 k1 t1))=some (.ret (.tup []) (qai cs2 N lg2 k2 t2)))
  (wd:wr w7=w7) (we:sp-2=w7)
  (s7:Z qaa (.call 114 [.ptr 0 0,.int 7,.int w7] (qai cs2 N lg2 k2 t2))=some (.ret (.tup []) (qai cs3 N lg3 k3 t3)))
  (hex:Z qaa (.call 64 [.int op,.iface 0 (.ptr 0 0),s.d,qbC n a b] (qai cs3 N lg3 k3 t3))=some (.ret (exR v [x1,x2,x3,x4] em) (qai cs4 N lg4 k4 t4))) :
  Z qaa (.call 52 [.iface 0 (.ptr 0 0),s.d,qaq f c e0 e1 e2] (qai cs N lg k t))=some (.ret (.tup [.bool (decide ((op:Int)=21)),.dat (.agg (qal [x1,x2,x3,x4])),.bool em]) (qai cs4 N lg4 k4 t4)):=by
 refine qab (pf:=F52) rfl rfl ?_
 have hP':=hP; have hQ':=hQ
 simp only[qaA,qai,Su.d,Su.c,qbC,exR,qal,List.map] at g6 g7 g8 s8 s6 hex ga gb s7
 simp (maxSteps:=5000000) [F52,qaA,qai,Su.d,Su.c,qaq,qbC,exR,Wa,qal,qaI,qan,g6,g7,g8,hf,hp0,hp1,hc,hc2,hx,hop,hP',hQ',wa,wb,wf,wp,s8,s6,hex,ga,wc,gb,wd,we,s7]
set_option maxHeartbeats 8000000 in
theorem qsS (g6:Z qaa (.call 51 [.ptr 0 0,.int 6] (qai cs N lg k t))=some (.ret (.int pc) (qai cs N lg k t)))
  (g7:Z qaa (.call 51 [.ptr 0 0,.int 7] (qai cs N lg k t))=some (.ret (.int sp) (qai cs N lg k t)))
  (g8:Z qaa (.call 51 [.ptr 0 0,.int 8] (qai cs N lg k t))=some (.ret (.int fuel) (qai cs N lg k t)))
  (hf : ¬ fuel<1) (hp0 : ¬ pc<0) (hp1 : ¬ (c.length:Int)<=pc)
  (hc:qae 2 (.dat (codeDV f c)) pc=some (.dat (.imm (qbO c) (pc.toNat*2)))) (hc2:qah (qbO c) (pc.toNat*2) 2=some [.lit (.int .i64 op),.lit (.int .i64 n)])
  (hx:Z qaa (.call 63 [.dat (.agg [.lit (.int .i64 op),.lit (.int .i64 n)]),.int sp] [])=some (.ret (.bool true) [])) (hop:(op:Int)<22)
  (hP:qah G_arenanet_vm_effects (op*3) 1=some [.lit (.int .i64 2)]) (hQ:qah G_arenanet_vm_effects (op*3+1) 1=some [.lit (.int .i64 1)])
  (wa:wr (16+sp)=16+sp) (wb:wr (16+sp-2)=bt) (wf:wr (fuel-1)=w8) (wp:wr (pc+1)=w6)
  (ga:Z qaa (.call 51 [.ptr 0 0,.int bt] (qai cs N lg k t))=some (.ret (.int a) (qai cs N lg k t)))
  (wc:wr (bt+1)=bt+1) (gb:Z qaa (.call 51 [.ptr 0 0,.int (bt+1)] (qai cs N lg k t))=some (.ret (.int b) (qai cs N lg k t)))
  (s8:Z qaa (.call 114 [.ptr 0 0,.int 8,.int w8] (qai cs N lg k t))=some (.ret (.tup []) (qai cs1 N lg1 k1 t1)))
  (s6:Z qaa (.call 114 [.ptr 0 0,.int 6,.int w6] (qai cs1 N lg1 k1 t1))=some (.ret (.tup []) (qai cs2 N lg2 k2 t2)))
  (wd:wr (sp-2)=sp-2) (we:wr (sp-2+1)=w7)
  (s7:Z qaa (.call 114 [.ptr 0 0,.int 7,.int w7] (qai cs2 N lg2 k2 t2))=some (.ret (.tup []) (qai cs3 N lg3 k3 t3)))
  (hex:Z qaa (.call 64 [.int op,.iface 0 (.ptr 0 0),s.d,qbC n a b] (qai cs3 N lg3 k3 t3))=some (.ret (exR v [x1,x2,x3,x4] em) (qai cs4 N lg4 k4 t4)))
  (sv:Z qaa (.call 114 [.ptr 0 0,.int bt,.int v] (qai cs4 N lg4 k4 t4))=some (.ret (.tup []) (qai cs5 N lg5 k5 t5))) :
  Z qaa (.call 52 [.iface 0 (.ptr 0 0),s.d,qaq f c e0 e1 e2] (qai cs N lg k t))=some (.ret (.tup [.bool (decide ((op:Int)=21)),.dat (.agg (qal [x1,x2,x3,x4])),.bool em]) (qai cs5 N lg5 k5 t5)):=by
 refine qab (pf:=F52) rfl rfl ?_
 have hP':=hP; have hQ':=hQ
 simp only[qaA,qai,Su.d,Su.c,qbC,exR,qal,List.map] at g6 g7 g8 s8 s6 hex ga gb s7 sv
 simp (maxSteps:=5000000) [F52,qaA,qai,Su.d,Su.c,qaq,qbC,exR,Wa,qal,qaI,qan,g6,g7,g8,hf,hp0,hp1,hc,hc2,hx,hop,hP',hQ',wa,wb,wf,wp,s8,s6,hex,ga,wc,gb,wd,we,s7,sv]
set_option maxHeartbeats 8000000 in
theorem qsT (g6:Z qaa (.call 51 [.ptr 0 0,.int 6] (qai cs N lg k t))=some (.ret (.int pc) (qai cs N lg k t)))
  (g7:Z qaa (.call 51 [.ptr 0 0,.int 7] (qai cs N lg k t))=some (.ret (.int sp) (qai cs N lg k t)))
  (g8:Z qaa (.call 51 [.ptr 0 0,.int 8] (qai cs N lg k t))=some (.ret (.int fuel) (qai cs N lg k t)))
  (hf : ¬ fuel<1) (hp0 : ¬ pc<0) (hp1 : ¬ (c.length:Int)<=pc)
  (hc:qae 2 (.dat (codeDV f c)) pc=some (.dat (.imm (qbO c) (pc.toNat*2)))) (hc2:qah (qbO c) (pc.toNat*2) 2=some [.lit (.int .i64 op),.lit (.int .i64 n)])
  (hx:Z qaa (.call 63 [.dat (.agg [.lit (.int .i64 op),.lit (.int .i64 n)]),.int sp] [])=some (.ret (.bool true) [])) (hop:(op:Int)<22)
  (hP:qah G_arenanet_vm_effects (op*3) 1=some [.lit (.int .i64 0)]) (hQ:qah G_arenanet_vm_effects (op*3+1) 1=some [.lit (.int .i64 0)])
  (wa:wr (16+sp)=16+sp) (wb:16+sp=bt) (wa2:wr bt=bt) (wf:wr (fuel-1)=w8) (wp:wr (pc+1)=w6)
  (s8:Z qaa (.call 114 [.ptr 0 0,.int 8,.int w8] (qai cs N lg k t))=some (.ret (.tup []) (qai cs1 N lg1 k1 t1)))
  (s6:Z qaa (.call 114 [.ptr 0 0,.int 6,.int w6] (qai cs1 N lg1 k1 t1))=some (.ret (.tup []) (qai cs2 N lg2 k2 t2)))
  (hex:Z qaa (.call 64 [.int op,.iface 0 (.ptr 0 0),s.d,qbC n 0 0] (qai cs2 N lg2 k2 t2))=some (.ret (exR v [x1,x2,x3,x4] em) (qai cs4 N lg4 k4 t4))) :
  Z qaa (.call 52 [.iface 0 (.ptr 0 0),s.d,qaq f c e0 e1 e2] (qai cs N lg k t))=some (.ret (.tup [.bool (decide ((op:Int)=21)),.dat (.agg (qal [x1,x2,x3,x4])),.bool em]) (qai cs4 N lg4 k4 t4)):=by
 refine qab (pf:=F52) rfl rfl ?_
 have hP':=hP; have hQ':=hQ
 simp only[qaA,qai,Su.d,Su.c,qbC,exR,qal,List.map] at g6 g7 g8 s8 s6 hex
 simp (maxSteps:=5000000) [F52,qaA,qai,Su.d,Su.c,qaq,qbC,exR,Wa,qal,qaI,qan,g6,g7,g8,hf,hp0,hp1,hc,hc2,hx,hop,hP',hQ',wa,wb,wf,wp,s8,s6,hex,wa2]
end
end
end Go.Pm
