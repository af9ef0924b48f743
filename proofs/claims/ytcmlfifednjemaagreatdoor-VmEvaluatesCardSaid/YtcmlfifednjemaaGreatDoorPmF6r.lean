/- The abstract machine's program, printed by a program of our own: group 6r. -/
import Derived.Test.YtcmlfifednjemaaGreatDoorPmR
import Derived.Test.YtcmlfifednjemaaGreatDoorPmAL
import Derived.KernelRfl
set_option linter.unusedSimpArgs false
set_option linter.unusedVariables false
section
namespace Go.Pm.F
variable(C:Task->Option Res)(q:Nat)(fr:Fr)(σ : S)
@[simp] def F47l0x:PC:=(.seq (sr [mv 14 6,bk 15 .add 14 1,mv 16 1,ls 17 16,bn 18 .lss 15 17,mv 19 18,jt 20 19 (.mov (.t 6)),jt 21 19 (.bin .lss (.t 20) (kk 40)),jj 22 (.pick (.t 19) (.t 21) kF)] [1,5,6,22] (.cond (.t 22) .skip (.exit 0))) (.seq (.block 1 (sr [mv 25 1,mv 26 6,jj 27 (.indexAddr 1 (.t 25) (.t 26)),l1 28 27,mv 29 5,ls 30 29,cl 31 17 [28,30],mv 7 31] [1,5,6,7] (sr [mv 32 1,mv 33 6,bk 34 .add 33 1,jj 35 (.indexAddr 1 (.t 32) (.t 34)),l1 36 35,jj 37 (.call 17 [(.t 36),(kk 100000)]),mv 8 37] [1,5,6,7,8] (sr [mv 38 8,bk 39 .rem 38 41,bk 40 .sub 39 20,mv 9 40] [1,5,6,7,8,9] (.seq (sr [mv 41 8,bk 42 .rem 41 7,bk 43 .eql 42 0] [1,5,6,7,8,9,43] (cs 43 (rn [jj 44 (.bslice 7 [zN,zN,zN,zN,zN,zN,zN] [(0,1,(kk 2147483647)),(1,1,(kk (-2147483647))),(2,1,(kk 65536)),(3,1,(kk 46341)),(4,1,(kk (-46341))),(5,1,(kk 1048577)),(6,1,(kk 16385))]),mv 45 8,bk 46 .quo 45 7,bk 47 .rem 46 7,jj 48 (.indexAddr 1 (.t 44) (.t 47)),l1 49 48,mv 9 49] [1,5,6,7,8,9]))) (.seq (sr [mv 50 7,bk 51 .eql 50 6,mv 52 51,jf 53 52 (.mov (.t 7)),jf 54 52 (.bin .eql (.t 53) (kk 7)),jj 55 (.pick (.t 52) kT (.t 54)),mv 56 55,jf 57 56 (.mov (.t 7)),jf 58 56 (.bin .eql (.t 57) (kk 8)),jj 59 (.pick (.t 56) kT (.t 58))] [1,5,6,7,8,9,59] (cs 59 (rn [mv 60 9,jj 61 (.call 17 [(.t 60),(kk 24)]),mv 9 61] [1,5,6,7,8,9]))) (.seq (sr [mv 62 7,bk 63 .eql 62 11] [1,5,6,7,8,9,63] (cs 63 (rn [jj 64 (.bslice 5 [zN,zN,zN,zN,zN] [(0,1,(kk 0)),(1,1,(kk 1)),(2,1,(kk 39)),(3,1,(kk 40)),(4,1,(kk 41))]),mv 65 8,bk 66 .rem 65 5,jj 67 (.indexAddr 1 (.t 64) (.t 66)),l1 68 67,mv 9 68] [1,5,6,7,9]))) (rn [mv 69 5,mv 70 7,mv 71 9,jj 72 (.indexAddr 1 (.t 69) (.t 70)),st 1 72 71] [1,5,6])))))))) (rn [mv 23 6,bk 24 .add 23 2,mv 6 24] [1,5,6])))
def F47l0:PC:=F47l0x
theorem qbM:run C q F47l0 fr σ = run C q F47l0x fr σ := rfl
def F61:PFun:=pf 1 [.tmp 2] (sr [mx 2 (kk 0)] [0] (.seq (sr [mv 3 0] [3] (cs 3 (sr [mx 2 (kk 1)] [2] .ret))) (sr [mx 2 (kk 0)] [2] .ret)))
def F71:PFun:=pf 3 [.tmp 6] (sr [mx 6 (kk 0)] [0,1,2] (.seq (sr [mv 7 0] [1,2,7] (.block 0 (sr [bk 9 .eql 7 9,mv 8 9] [1,2,7,8] (.cond (.t 8) (sr [mv 10 1,mv 11 2,bn 12 .add 10 11,cl 13 81 [12],mv 6 13] [6] .ret) (sr [bk 15 .eql 7 10,mv 14 15] [1,2,7,14] (.cond (.t 14) (sr [mv 16 1,mv 17 2,bn 18 .sub 16 17,cl 19 81 [18],mv 6 19] [6] .ret) (sr [bk 21 .eql 7 11,mv 20 21] [1,2,7,20] (.cond (.t 20) (sr [mv 22 1,mv 23 2,bn 24 .mul 22 23,cl 25 81 [24],mv 6 25] [6] .ret) (sr [bk 27 .eql 7 12,mv 26 27] [1,2,7,26] (.cond (.t 26) (.seq (sr [mv 28 2,bk 29 .eql 28 0] [1,2,29] (cs 29 (sr [mx 6 (kk 0)] [6] .ret))) (sr [mv 30 1,mv 31 2,bn 32 .quo 30 31,cl 33 81 [32],mv 6 33] [6] .ret)) (sr [bk 35 .eql 7 13,mv 34 35] [1,2,7,34] (.cond (.t 34) (sr [mv 36 1,jj 37 (.un .neg (.t 36)),cl 38 81 [37],mv 6 38] [6] .ret) (sr [bk 40 .eql 7 14,mv 39 40] [1,2,7,39] (.cond (.t 39) (sr [mv 41 1,mv 42 2,bn 43 .lss 41 42,cl 44 61 [43],mv 6 44] [6] .ret) (sr [bk 46 .eql 7 15,mv 45 46] [1,2,7,45] (.cond (.t 45) (sr [mv 47 1,mv 48 2,bn 49 .leq 47 48,cl 50 61 [49],mv 6 50] [6] .ret) (sr [bk 52 .eql 7 16,mv 51 52] [1,2,51] (cs 51 (sr [mv 53 1,mv 54 2,bn 55 .eql 53 54,cl 56 61 [55],mv 6 56] [6] .ret))))))))))))))))))) (sr [mv 57 1,bk 58 .eql 57 0,cl 59 61 [58],mv 6 59] [6] .ret)))
def F81:PFun:=pf 1 [.tmp 2] (sr [mx 2 (kk 0)] [0] (sr [mv 3 0,jj 4 (.call 78 [(.t 3),(kk (-2147483647)),(kk 2147483647)]),mv 2 4] [2] .ret))
def F350:PFun:=pf 4 [.tmp 8] (sr [bx 4 0,bx 6 2,mx 8 (kk 0)] [1,3,4,6] (.seq (sr [fa 12 0 4,l1 13 12] [1,3,4,6,13] (.block 0 (.seq (sr [bk 15 .eql 13 8,mv 14 15] [1,3,4,6,13,14] (.cond (.t 14) .skip (rn [bk 16 .eql 13 9,mv 14 16] [1,3,4,6,13,14]))) (.cond (.t 14) (sr [fa 17 1 4,l1 18 17,mv 8 18] [8] .ret) (sr [bk 20 .eql 13 10,mv 19 20] [1,3,4,6,13,19] (.cond (.t 19) (sr [mv 21 3,mv 8 21] [8] .ret) (sr [bk 23 .eql 13 12,mv 22 23] [1,3,4,6,13,22] (.cond (.t 22) (.seq (sr [fa 24 2 4,l1 25 24,jj 26 (.bin .eql (.t 25) (ks [115,101,108,102]))] [1,4,26] (cs 26 (sr [mv 27 1,jj 28 (.indexAddr 1 (.t 27) (kk 9)),l1 29 28,mv 8 29] [8] .ret))) (.seq (sr [fa 30 2 4,l1 31 30,jj 32 (.bin .eql (.t 31) (ks [111,116,104,101,114]))] [1,32] (cs 32 (sr [mv 33 1,jj 34 (.indexAddr 1 (.t 33) (kk 10)),l1 35 34,mv 8 35] [8] .ret))) (sr [mv 36 1,jj 37 (.indexAddr 1 (.t 36) (kk 0)),l1 38 37,mv 8 38] [8] .ret))) (sr [bk 40 .eql 13 11,mv 39 40] [1,3,4,6,13,39] (.cond (.t 39) (.seq (.region (some []) [mv 41 1,⟨some 42,.load true 16 (.t 6),none,[9,12]⟩,fa 43 3 4,l1 44 43,jj 45 (.indexAddr 4 (.t 44) (kk 0)),la 46 4 45,mv 47 1,la 48 16 6,mv 49 3,cl 50 350 [46,47,48,49],fa 51 2 4,⟨some 52,.load false 1 (.t 51),none,[9]⟩,cl 53 161 [52],cl 54 1000 [41,42,50,53],mv 8 54] [8] [12,13]) .ret) (sr [bk 56 .eql 13 13,mv 55 56] [1,3,4,6,55] (cs 55 (.seq (.region (some []) [fa 57 3 4,l1 58 57,jj 59 (.indexAddr 4 (.t 58) (kk 0)),la 60 4 59,mv 61 1,la 62 16 6,mv 63 3,cl 64 350 [60,61,62,63],mv 9 64] [4,9] [7]) (.seq (sr [fa 65 2 4,l1 66 65,jj 67 (.bin .eql (.t 66) (ks [45]))] [9,67] (cs 67 (sr [mv 68 9,jj 69 (.call 71 [(kk 13),(.t 68),(kk 0)]),mv 8 69] [8] .ret))) (sr [mv 70 9,jj 71 (.call 71 [(kk 17),(.t 70),(kk 0)]),mv 8 71] [8] .ret))))))))))))))) (.seq (.region (some []) [fa 72 3 4,l1 73 72,jj 74 (.indexAddr 4 (.t 73) (kk 0)),la 75 4 74,mv 76 1,la 77 16 6,mv 78 3,cl 79 350 [75,76,77,78],mv 10 79] [1,3,4,6,10] [7]) (.seq (.region (some []) [fa 80 3 4,l1 81 80,jj 82 (.indexAddr 4 (.t 81) (kk 1)),la 83 4 82,mv 84 1,la 85 16 6,mv 86 3,cl 87 350 [83,84,85,86],mv 11 87] [4,10,11] [7]) (.seq (sr [fa 88 2 4,l1 89 88] [10,11,89] (.block 1 (sr [jj 91 (.bin .eql (.t 89) (ks [43])),mv 90 91] [10,11,89,90] (.cond (.t 90) (sr [mv 92 10,mv 93 11,jj 94 (.call 71 [(kk 9),(.t 92),(.t 93)]),mv 8 94] [8] .ret) (sr [jj 96 (.bin .eql (.t 89) (ks [45])),mv 95 96] [10,11,89,95] (.cond (.t 95) (sr [mv 97 10,mv 98 11,jj 99 (.call 71 [(kk 10),(.t 97),(.t 98)]),mv 8 99] [8] .ret) (sr [jj 101 (.bin .eql (.t 89) (ks [42])),mv 100 101] [10,11,89,100] (.cond (.t 100) (sr [mv 102 10,mv 103 11,jj 104 (.call 71 [(kk 11),(.t 102),(.t 103)]),mv 8 104] [8] .ret) (sr [jj 106 (.bin .eql (.t 89) (ks [47])),mv 105 106] [10,11,89,105] (.cond (.t 105) (sr [mv 107 10,mv 108 11,jj 109 (.call 71 [(kk 12),(.t 107),(.t 108)]),mv 8 109] [8] .ret) (sr [jj 111 (.bin .eql (.t 89) (ks [60])),mv 110 111] [10,11,89,110] (.cond (.t 110) (sr [mv 112 10,mv 113 11,bn 114 .lss 112 113,cl 115 61 [114],mv 8 115] [8] .ret) (sr [jj 117 (.bin .eql (.t 89) (ks [60,61])),mv 116 117] [10,11,89,116] (.cond (.t 116) (sr [mv 118 10,mv 119 11,bn 120 .leq 118 119,cl 121 61 [120],mv 8 121] [8] .ret) (sr [jj 123 (.bin .eql (.t 89) (ks [62])),mv 122 123] [10,11,89,122] (.cond (.t 122) (sr [mv 124 10,mv 125 11,bn 126 .gtr 124 125,cl 127 61 [126],mv 8 127] [8] .ret) (sr [jj 129 (.bin .eql (.t 89) (ks [62,61])),mv 128 129] [10,11,89,128] (.cond (.t 128) (sr [mv 130 10,mv 131 11,bn 132 .geq 130 131,cl 133 61 [132],mv 8 133] [8] .ret) (sr [jj 135 (.bin .eql (.t 89) (ks [61,61])),mv 134 135] [10,11,89,134] (.cond (.t 134) (sr [mv 136 10,mv 137 11,bn 138 .eql 136 137,cl 139 61 [138],mv 8 139] [8] .ret) (sr [jj 141 (.bin .eql (.t 89) (ks [33,61])),mv 140 141] [10,11,89,140] (.cond (.t 140) (sr [mv 142 10,mv 143 11,bn 144 .neq 142 143,cl 145 61 [144],mv 8 145] [8] .ret) (sr [jj 147 (.bin .eql (.t 89) (ks [38,38])),mv 146 147] [10,11,146] (cs 146 (sr [mv 148 10,bk 149 .neq 148 0,mv 150 149,jt 151 150 (.mov (.t 11)),jt 152 150 (.bin .neq (.t 151) (kk 0)),jj 153 (.pick (.t 150) (.t 152) kF),cl 154 61 [153],mv 8 154] [8] .ret))))))))))))))))))))))))) (sr [mv 155 10,bk 156 .neq 155 0,mv 157 156,jf 158 157 (.mov (.t 11)),jf 159 157 (.bin .neq (.t 158) (kk 0)),jj 160 (.pick (.t 157) kT (.t 159)),cl 161 61 [160],mv 8 161] [8] .ret))))))
def F1000:PFun:=pf 4 [.tmp 8] (sr [bx 5 1,mx 8 (kk 0)] [0,2,3,5] (sr [la 10 16 5,mv 11 2,cl 12 66 [10,11],mv 9 12] [0,3,9] (.seq (sr [mv 13 9,bk 14 .lss 13 0] [0,3,9,14] (cs 14 (sr [mx 8 (kk 0)] [8] .ret))) (sr [mv 15 0,mv 16 9,mv 17 3,bn 18 .add 16 17,jj 19 (.indexAddr 1 (.t 15) (.t 18)),l1 20 19,mv 8 20] [8] .ret))))
end Go.Pm.F
end
section
namespace Go.Pm.F
variable(C:Task->Option Res)(q:Nat)(fr:Fr)(σ : S)
@[simp] def F109l0x:PC:=(sr [bn 15 .lss 14 13] [5,12,13,14,15] (.seq (.cond (.t 15) .skip (.exit 0)) (.seq (.block 1 (sr [jj 16 (.indexAddr 1 (.t 12) (.t 14)),l1 17 16,mv 7 17] [5,7,12,13,14] (rn [mv 18 5,mv 19 7,jj 20 (.conv (.int .u64) (.t 19)),cl 21 111 [18,20],mv 5 21] [5,12,13,14]))) (rn [bk 22 .add 14 1,mv 14 22] [5,12,13,14]))))
def F109l0:PC:=F109l0x
theorem qnG:run C q F109l0 fr σ = run C q F109l0x fr σ := rfl
def F109:PFun:=pf 2 [.tmp 4] (sr [jj 4 (.mov (.c (.int .u64 0)))] [0,1] (sr [mv 8 0,mv 9 1,ls 10 9,cl 11 110 [8,10],mv 5 11] [1,5] (.seq (sr [mv 12 1,ls 13 12,mx 14 (kk 0)] [5,12,13,14] (.block 0 (.loop F109l0))) (sr [mv 23 5,jj 24 (.call 111 [(.t 23),(.c (.int .u64 0))]),mv 4 24] [4] .ret))))
@[simp] def F110a0x:PC:=(rn [mv 6 9] [5,6])
def F110a0:PC:=F110a0x
@[simp] def F110b0x:PC:=(.block 1 (rn [l1 10 5,mv 11 6,cl 12 111 [10,11],st 1 5 12] []))
def F110b0:PC:=F110b0x
def F110:PFun:=pf 2 [.tmp 4] (sr [jj 4 (.mov (.c (.int .u64 0)))] [0,1] (sr [jj 5 (.alloc [(.lit (.int .u64 0))])] [0,1,5] (.seq (sr [mv 7 0,cl 8 112 [7]] [0,1,5,8] (.block 0 (.range (.t 8) [9] F110a0 F110b0))) (sr [l1 13 5,mv 14 0,lz 15 14,jj 16 (.conv (.int .u64) (.t 15)),cl 17 111 [13,16],mv 18 1,jj 19 (.conv (.int .u64) (.t 18)),cl 20 111 [17,19],mv 4 20] [4] .ret))))
def F111:PFun:=pf 2 [.tmp 4] (sr [jj 4 (.mov (.c (.int .u64 0)))] [0,1] (sr [mv 6 0,mv 7 1,bn 8 .xor 6 7,jj 9 (.bin .mul (.t 8) (.c (.int .u64 11400714819323198485))),mv 5 9] [5] (sr [mv 10 5,mv 11 5,jj 12 (.bin .shr (.t 11) (.c (.int .u64 32))),bn 13 .xor 10 12,mv 4 13] [4] .ret)))
def F112:PFun:=pf 1 [.tmp 2] (sr [bx 1 0,jj 2 (.mov (.c .nilFunc))] [1] (sr [jj 3 (.mkfn 113 [] [(.t 1)]),mv 2 3] [2] .ret))
@[simp] def F113l1x:PC:=(.seq (sr [mv 12 5,bk 13 .lss 12 8,mv 14 13,jt 15 14 (.mov (.t 3)),jt 16 14 (.mov (.t 5)),jt 17 14 (.bin .add (.t 15) (.t 16)),jt 18 14 (.load false 1 (.t 1)),jt 19 14 (.len .str (.t 18)),jt 20 14 (.bin .lss (.t 17) (.t 19)),jj 21 (.pick (.t 14) (.t 20) kF)] [0,1,3,4,5,21] (.cond (.t 21) .skip (.exit 2))) (.seq (.block 3 (rn [mv 24 4,l1 25 1,mv 26 3,mv 27 5,bn 28 .add 26 27,jj 29 (.indexS (.t 25) (.t 28)),jj 30 (.conv (.int .u64) (.t 29)),mv 31 5,jj 32 (.bin .mul (kk 8) (.t 31)),bn 33 .shl 30 32,bn 34 .or 24 33,mv 4 34] [0,1,3,4,5])) (rn [mv 22 5,bk 23 .add 22 1,mv 5 23] [0,1,3,4,5])))
def F113l1:PC:=F113l1x
@[simp] def F113l0x:PC:=(.seq (sr [mv 6 3,l1 7 1,lz 8 7,bn 9 .lss 6 8] [0,1,3,9] (.cond (.t 9) .skip (.exit 0))) (.seq (.block 1 (sr [jj 4 (.mov (.c (.int .u64 0)))] [0,1,3,4] (.seq (sr [mx 5 (kk 0)] [0,1,3,4,5] (.block 2 (.loop F113l1))) (sr [mv 35 0,mv 36 4,jj 37 (.callv (.t 35) [(.t 36)]),jj 38 (.un .not (.t 37))] [0,1,3,38] (cs 38 .ret))))) (rn [mv 10 3,bk 11 .add 10 8,mv 3 11] [0,1,3])))
def F113l0:PC:=F113l0x
def F113:PFun:=pf 2 [] (sr [mx 3 (kk 0)] [0,1,3] (.block 0 (.loop F113l0)))
end Go.Pm.F
end
section
namespace Go.Pm.F
variable(C:Task->Option Res)(q:Nat)(fr:Fr)(σ : S)
@[simp] def F46l0x:PC:=(sr [bn 13 .lss 12 11] [0,3,11,12,13] (.seq (.cond (.t 13) .skip (.exit 0)) (.seq (.block 1 (sr [mv 14 12,mv 4 14] [0,3,4,11,12] (.region (some []) [mv 15 3,nc 16 15,fa 17 0 16,l1 18 17,mv 19 4,mv 20 0,mv 21 4,jj 22 (.indexAddr 1 (.t 20) (.t 21)),l1 23 22,jj 24 (.indexAddr 1 (.t 18) (.t 19)),st 1 24 23] [0,3,11,12]))) (rn [bk 25 .add 12 1,mv 12 25] [0,3,11,12]))))
def F46l0:PC:=F46l0x
theorem qkR:run C q F46l0 fr σ = run C q F46l0x fr σ := rfl
def F46:PFun:=pf 1 [.tmp 2] (sr [jj 2 (.mov (.c (.pointer none)))] [0] (sr [mv 5 0,ls 6 5,jj 7 (.mkslice false [zN] 8 (.t 6) (.t 6)),jj 8 (.build [sN,sN,zN] [(0,1,(.t 7))]),bx 9 8,mv 3 9] [0,3] (.seq (sr [mv 10 0,ls 11 10,mx 12 (kk 0)] [0,3,11,12] (.block 0 (.loop F46l0))) (sr [mv 26 3,mv 2 26] [2] .ret))))
def F51:PFun:=pf 2 [.tmp 4] (sr [mx 4 (kk 0)] [0,1] (.seq (sr [mv 5 0,mv 6 1,cl 7 62 [5,6],jj 8 (.un .not (.t 7))] [0,1,8] (cs 8 (sr [mx 4 (kk 0)] [4] .ret))) (sr [mv 9 0,nc 10 9,fa 11 0 10,l1 12 11,mv 13 1,jj 14 (.indexAddr 1 (.t 12) (.t 13)),l1 15 14,mv 4 15] [4] .ret)))
def F62:PFun:=pf 2 [.tmp 4] (sr [mx 4 kF] [0,1] (sr [mv 5 1,jj 6 (.bin .leq (kk 0) (.t 5)),mv 7 6,jt 8 7 (.mov (.t 1)),jt 9 7 (.mov (.t 0)),jt 10 7 (.nilchk (.t 9)),jt 11 7 (.fieldAddr 0 (.t 10)),jt 12 7 (.load false 1 (.t 11)),jt 13 7 (.len .sl (.t 12)),jt 14 7 (.bin .lss (.t 8) (.t 13)),jj 15 (.pick (.t 7) (.t 14) kF),mv 4 15] [4] .ret))
def F114:PFun:=pf 3 [] (.seq (sr [mv 6 0,mv 7 1,cl 8 62 [6,7],jj 9 (.un .not (.t 8))] [0,1,2,9] (cs 9 .ret)) (.seq (.region (some []) [mv 10 0,mv 11 0,nc 12 11,fa 13 1 12,l1 14 13,mv 15 1,mv 16 0,nc 17 16,fa 18 0 17,l1 19 18,mv 20 1,jj 21 (.indexAddr 1 (.t 19) (.t 20)),l1 22 21,jj 23 (.build [zN,zN] [(0,1,(.t 15)),(1,1,(.t 22))]),jj 24 (.bslice 1 [zN,zN] [(0,2,(.t 23))]),jj 25 (.append 2 16 (.t 14) (.t 24)),nc 26 10,fa 27 1 26,st 1 27 25] [0,1,2]) (rn [mv 28 0,nc 29 28,fa 30 0 29,l1 31 30,mv 32 1,mv 33 2,jj 34 (.indexAddr 1 (.t 31) (.t 32)),st 1 34 33] [])))
end Go.Pm.F
end
section
namespace Go.Pm.F
variable(C:Task->Option Res)(q:Nat)(fr:Fr)(σ : S)
def F108:PFun:=pf 3 [.tmp 6] (sr [mx 6 (kk 0)] [0,1,2] (.seq (.block 0 (sr [mv 8 0,mv 9 1,bn 10 .lss 8 9,mv 7 10] [0,1,2,7] (.cond (.t 7) (sr [mv 11 1,mv 6 11] [6] .ret) (sr [mv 13 0,mv 14 2,bn 15 .gtr 13 14,mv 12 15] [0,2,12] (cs 12 (sr [mv 16 2,mv 6 16] [6] .ret)))))) (sr [mv 17 0,mv 6 17] [6] .ret)))
@[simp] def F329l0x:PC:=(.seq (sr [mv 9 5,mv 10 6,bn 11 .lss 9 10] [1,5,6,11] (.cond (.t 11) .skip (.exit 0))) (.block 1 (sr [mv 12 5,mv 13 6,bn 14 .add 12 13,jj 15 (.conv (.int .u64) (.t 14)),jj 16 (.bin .shr (.t 15) (.c (.int .u64 1))),jj 17 (.conv (.int .i64) (.t 16)),mv 7 17] [1,5,6,7] (sr [mv 18 1,mv 19 7,jj 20 (.callv (.t 18) [(.t 19)]),jj 21 (.un .not (.t 20))] [1,5,6,7,21] (.cond (.t 21) (rn [mv 22 7,bk 23 .add 22 1,mv 5 23] [1,5,6]) (rn [mv 24 7,mv 6 24] [1,5,6]))))))
def F329l0:PC:=F329l0x
def F329:PFun:=pf 2 [.tmp 4] (sr [mx 4 (kk 0)] [0,1] (sr [mv 8 0,mx 5 (kk 0),mv 6 8] [1,5,6] (.seq (.block 0 (.loop F329l0)) (sr [mv 25 5,mv 4 25] [4] .ret))))
end Go.Pm.F
end
section
namespace Go.Pm.F
variable(C:Task->Option Res)(q:Nat)(fr:Fr)(σ : S)
@[simp] def F50l0x:PC:=(.seq (sr [mv 28 4,bk 29 .lss 28 3] [1,2,3,4,29] (.cond (.t 29) .skip (.exit 0))) (.seq (.block 1 (sr [mv 33 2,jj 34 (.mkif 0 (.t 33)),la 35 16 1,la 36 4 3,cl 37 52 [34,35,36],mv 32 37,ex 38 32 0,ex 39 32 1,ex 40 32 2,jj 6 (.alloc [zN,zN,zN,zN]),mv 5 38,st 4 6 39,mv 7 40] [1,2,3,4,5] (sr [mv 41 5] [1,2,3,4,41] (cs 41 (sr [mx 0 kF] [0] .ret))))) (rn [mv 30 4,bk 31 .add 30 1,mv 4 31] [1,2,3,4])))
def F50l0:PC:=F50l0x
def F50:PFun:=pf 0 [.tmp 0] (sr [mx 0 kF] [] (sr [jj 11 (.call 45 [(.c (.slice none 0 0))]),jj 1 (.alloc [zN,sN,zN,zN,zN,zN,sN,sN,zN,zN,zN,zN,zN,zN,zN,zN]),st 16 1 11] [1] (sr [la 12 16 1,cl 13 55 [12],cl 14 46 [13],mv 2 14] [1,2] (sr [jj 15 (.build [zN,zN] [(0,1,(kk 1)),(1,1,(kk 2))]),jj 16 (.build [zN,zN] [(0,1,(kk 1)),(1,1,(kk 5))]),jj 17 (.build [zN,zN] [(0,1,(kk 10))]),jj 18 (.build [zN,zN] [(0,1,(kk 21))]),jj 19 (.bslice 4 [zN,zN,zN,zN,zN,zN,zN,zN] [(0,2,(.t 15)),(2,2,(.t 16)),(4,2,(.t 17)),(6,2,(.t 18))]),jj 20 (.build [sN,zN,zN,zN] [(0,1,(.t 19))]),jj 3 (.alloc [sN,zN,zN,zN]),st 4 3 20] [1,2,3] (.seq (sr [mv 21 2,jj 22 (.isnil true false (.t 21))] [1,2,3,22] (cs 22 (sr [mx 0 kF] [0] .ret))) (.seq (sr [mv 23 2,jj 24 (.mkif 0 (.t 23)),la 25 4 3,jj 26 (.call 49 [(.t 24),(.t 25),(kk 1),(kk 3),(kk 4),(kk 9)]),jj 27 (.un .not (.t 26))] [1,2,3,27] (cs 27 (sr [mx 0 kF] [0] .ret))) (.seq (sr [mx 4 (kk 0)] [1,2,3,4] (.block 0 (.loop F50l0))) (sr [mv 43 2,jj 44 (.mkif 0 (.t 43)),la 45 16 1,la 46 4 3,cl 47 52 [44,45,46],mv 42 47,ex 48 42 0,ex 49 42 1,ex 50 42 2,jj 9 (.alloc [zN,zN,zN,zN]),mv 8 48,st 4 9 49,mv 10 50] [2,8] (sr [mv 51 8,mv 52 51,jt 53 52 (.mov (.t 2)),jt 54 52 (.call 51 [(.t 53),(kk 16)]),jt 55 52 (.bin .eql (.t 54) (kk (-3))),jj 56 (.pick (.t 52) (.t 55) kF),mv 57 56,jt 58 57 (.mov (.t 2)),jt 59 57 (.call 51 [(.t 58),(kk 7)]),jt 60 57 (.bin .eql (.t 59) (kk 1)),jj 61 (.pick (.t 57) (.t 60) kF),mv 62 61,jt 63 62 (.mov (.t 2)),jt 64 62 (.call 51 [(.t 63),(kk 8)]),jt 65 62 (.bin .eql (.t 64) (kk 5)),jj 66 (.pick (.t 62) (.t 65) kF),mv 0 66] [0] .ret)))))))))
end Go.Pm.F
end
section
namespace Go.Pm.F
def qab:Nat->Option PFun
 |45=>some F45
 |46=>some F46
 |17=>some F17
 |49=>some F49
 |50=>some F50
 |51=>some F51
 |52=>some F52
 |55=>some F55
 |60=>some F60
 |61=>some F61
 |62=>some F62
 |63=>some F63
 |64=>some F64
 |65=>some F65
 |66=>some F66
 |1000=>some F1000
 |71=>some F71
 |74=>some F74
 |75=>some F75
 |76=>some F76
 |77=>some F77
 |78=>some F78
 |81=>some F81
 |82=>some F82
 |83=>some F83
 |84=>some F84
 |85=>some F85
 |86=>some F86
 |87=>some F87
 |88=>some F88
 |89=>some F89
 |90=>some F90
 |91=>some F91
 |92=>some F92
 |93=>some F93
 |94=>some F94
 |95=>some F95
 |96=>some F96
 |97=>some F97
 |98=>some F98
 |99=>some F99
 |100=>some F100
 |101=>some F101
 |102=>some F102
 |103=>some F103
 |104=>some F104
 |105=>some F105
 |106=>some F106
 |107=>some F107
 |108=>some F108
 |109=>some F109
 |110=>some F110
 |111=>some F111
 |112=>some F112
 |113=>some F113
 |114=>some F114
 |_=>none
end Go.Pm.F
end
namespace Go.Pm
section
open F
attribute [local simp] V.len qag qad qac
def qc2(cs:List Int)(n:Nat):S:=[.cells [.msl 1 0 n n 1,.dat (.lit (.slice none 0 0)),.int 0],.cells (qbz cs)]
def qak(cs:List Int)(n:Nat)(lg:List D)(k t:Nat):S:=[.cells [.msl 1 0 n n 1,.gsl lg k 2 2,.int 0],.cells (qbz cs),.tip t]
section
variable{cs:List Int}{n:Nat}{lg:List D}{k t:Nat}{i v:Int}
theorem qvF:Z qab (.call 62 [.ptr 0 0,.int i] (qc2 cs n))=some (.ret (.bool (decide (0<=i)&&decide (i<n))) (qc2 cs n)):=by
 refine qaa (pf:=F62) rfl rfl ?_
 by_cases h:0<=i
 ·simp[F62,qc2,h,Wa]
 ·simp[F62,qc2,h,Wa]
theorem qsf:Z qab (.call 62 [.ptr 0 0,.int i] (qak cs n lg k t))=some (.ret (.bool (decide (0<=i)&&decide (i<n))) (qak cs n lg k t)):=by
 refine qaa (pf:=F62) rfl rfl ?_
 by_cases h:0<=i
 ·simp[F62,qak,h,Wa]
 ·simp[F62,qak,h,Wa]
theorem qaS(hn:cs.length=n)(h0:0<=i)(h1:i<n):Z qab (.call 51 [.ptr 0 0,.int i] (qak cs n lg k t))=some (.ret (.int (getI cs i)) (qak cs n lg k t)):=by
 refine qaa (pf:=F51) rfl rfl ?_
 have h2:=qsf (cs:=cs) (n:=n) (i:=i) (lg:=lg) (k:=k) (t:=t)
 have h3:i.toNat<cs.length:=by omega
 simp only[qak] at h2
 simp[F51,qak,h2,h0,h1,h3,qeK cs i h3,Wa]
def ent(cs:List Int)(i:Int):List D:=[.lit (.int .i64 i),.lit (.int .i64 (getI cs i))]
theorem qvG(hn:cs.length=n)(h0:0<=i)(h1:i<n):Z qab (.call 114 [.ptr 0 0,.int i,.int v] (qc2 cs n))=some (.ret (.tup []) (qak (qaK cs i v) n (ent cs i) 1 2)):=by
 refine qaa (pf:=F114) rfl rfl ?_
 have h2:=qvF (cs:=cs) (n:=n) (i:=i)
 have h3:i.toNat<cs.length:=by omega
 simp only[qc2] at h2
 have h4:=qbH cs i.toNat v h3
 have h7:i.toNat+1<=cs.length:=h3
 simp[F114,qc2,qak,h2,h0,h1,h3,h4,h7,qeK cs i h3,Wa,qaK,ent,qbQ,qkw,qaC,qa9,qaq]
theorem qcp(hn:cs.length=n)(h0:0<=i)(h1:i<n)(hl:lg.length=k*2)(hk:k<2^30):Z qab (.call 114 [.ptr 0 0,.int i,.int v] (qak cs n lg k (k*2)))=some (.ret (.tup []) (qak (qaK cs i v) n (lg++ent cs i) (k+1) ((k+1)*2))):=by
 refine qaa (pf:=F114) rfl rfl ?_
 have h2:=qsf (cs:=cs) (n:=n) (i:=i) (lg:=lg) (k:=k) (t:=k*2)
 have h3:i.toNat<cs.length:=by omega
 have h5:qaC (k+1) 16=true:=by simp[qaC]; omega
 simp only[qak] at h2
 have h4:=qbH cs i.toNat v h3
 have h7:i.toNat+1<=cs.length:=h3
 simp[F114,qc2,qak,h2,h0,h1,h3,h4,h5,h7,hl,qeK cs i h3,Wa,qaK,ent,qbQ,qkw,qa9,qaq]
 try omega
end
end
section
open F
attribute [local simp] V.len qag
def qfw(w:List Int)(i:Nat):List Int:=w.take i++List.replicate (w.length-i) 0
@[simp] theorem qkE(w:List Int)(i:Nat):(qfw w i).length=w.length:=by simp[qfw]; omega
theorem qoE(w:List Int)(i:Nat)(h:w.length<=i):qfw w i=w:=by simp[qfw,Ww h,Nat.sub_eq_zero_of_le h]
theorem qnw(w:List Int):qfw w 0=List.replicate w.length 0:=by simp[qfw]
theorem qoF(w:List Int)(i:Nat)(h:i<w.length):(qfw w i).set i (getN w i)=qfw w (i+1):=by
 apply List.ext_getElem (by simp)
 intro j h1 h2
 simp only[List.length_set,qkE] at h1
 simp only[getN,qfw,List.getElem_set,List.getElem_append,WL,List.getElem_take,List.getElem_replicate,Wn,WG h,Option.getD_some]
 split
 ·subst i; rw[dif_pos (by omega)]
 ·split
  ·rw[dif_pos (by omega)]
  ·rw[dif_neg (by omega)]
theorem qoG(w:List Int)(i:Nat)(h:i<w.length):(qbz (qfw w i)).take i++(V.int (getN w i)::(qbz (qfw w i)).drop (i+1))=qbz (qfw w (i+1)):=by
 rw[qbH _ _ _ (by simpa using h),qoF w i h]
def qjG(w:D)(n:Nat)(i:Int):Fr:=[(0,.dat w),(3,.ptr 0 0),(11,.int n),(12,.int i)]
theorem qqN (w:List Int) (n:Nat) (f:Bool) (hn:w.length=n) (hb:n<2^40) (m i:Nat) (hm:i+m=n) :
  Z qab (.loop 0 F46l0 (qjG (.sl (qan w) n f) n i) (qc2 (qfw w i) n))=some (.out (.exit 0) (qjG (.sl (qan w) n f) n n++[(13,.bool false)]) (qc2 w n)):=by
 induction m generalizing i with
 |zero=>
  have:i=n:=by omega
  subst this
  rw[qac,qoE w i (by omega)]
  simp[qad,qkR,qc2,qjG,Wa]
 |succ m ih=>
  have h1:=ih (i+1) (by omega)
  have h2:i<n:=by omega
  have h3:i<w.length:=by omega
  have h4:=qoG w i h3
  have h5:=qaB w i h3
  have w1:=qaf (i+1:Int) (by omega)
  have h6:i+1<=w.length:=h3
  simp only[qjG,qc2,WE,Wv] at h1
  rw[qac]
  simp[qad,qkR,qc2,qjG,Wa,h2,h5,h4,h6,w1,h1,qa9,qaq]
theorem qwg(w:List Int)(n:Nat)(f:Bool)(hn:w.length=n)(hb:n<2^40):Z qab (.call 46 [.dat (.sl (qan w) n f)] [])=some (.ret (.ptr 0 0) (qc2 w n)):=by
 refine qaa (pf:=F46) rfl rfl ?_
 have h1:=qqN w n f hn hb n 0 (by omega)
 rw[qac] at h1
 have hg:gcF 0 (qjG (.sl (qan w) n f) n (0:Nat)) (qc2 (qfw w 0) n)=some (qjG (.sl (qan w) n f) n (0:Nat),qc2 (qfw w 0) n):=by
  simp[qjG,qc2,Wa]
 rw[hg] at h1
 rw[show ((0:Nat):Int)=0 from rfl] at h1
 have h2:(n:Int)<=1099511627776/\8*(n:Int)<=281474976710656:=by omega
 have h3:8*n<=281474976710656:=by omega
 rw[qnw,hn] at h1
 simp only[qjG,qc2] at h1 ⊢
 simp[F46,qac,qh2,h2,h3,Wa,h1]
end
section
open F
attribute [local simp] V.len qag qad qac
def qky(s w:Int):Int:=
 let m:=IntKind.u64.wrap (qns .u64 (· ^^^ ·) s w*11400714819323198485)
 qns .u64 (· ^^^ ·) m (m.tdiv 4294967296)
def qv3(a b c d:Int):Int:=qky (qky (qky (qky (qky 10587374985770004219 (IntKind.u64.wrap a)) (IntKind.u64.wrap b)) (IntKind.u64.wrap c)) (IntKind.u64.wrap d)) 0
theorem qhI(n:Int):0<=IntKind.u64.wrap n/\IntKind.u64.wrap n<18446744073709551616:=by
 have:IntKind.u64.wrap n=n % 18446744073709551616:=by simp[IntKind.wrap,IntKind.bits,IntKind.signed]
 rw[this]; omega
theorem qtk(m:Int)(h:0<=m/\m<18446744073709551616):qti .u64 m 32=m.tdiv 4294967296:=by
 rw[Int.tdiv_eq_ediv_of_nonneg h.1 (b:=4294967296)]
 show Int.fdiv _ (2 ^ min (32:Int).toNat IntKind.u64.bits)=_
 rw[Int.fdiv_eq_ediv_of_nonneg _ (by decide)]
 rfl
def qjy(s w:Int):Int:=IntKind.u64.wrap (qns .u64 (· ^^^ ·) s w*11400714819323198485)
theorem qlz(s w:Int):0<=qjy s w/\qjy s w<18446744073709551616:=qhI _
theorem qqp(s w:Int):qky s w=qns .u64 (· ^^^ ·) (qjy s w) ((qjy s w).tdiv 4294967296):=by
 unfold qky qjy
 exact rfl
theorem qml(a b:Int):qkv .xor (.int .u64 a) (.int .u64 b)=some (.int .u64 (qns .u64 (· ^^^ ·) a b)):=by simp
theorem qqq(a b:Int):qkv .mul (.int .u64 (qns .u64 (· ^^^ ·) a b)) (.int .u64 11400714819323198485)=some (.int .u64 (qjy a b)):=by simp[qjy]
theorem qqr(a b:Int):qkv .shr (.int .u64 (qjy a b)) (.int .u64 32)=some (.int .u64 ((qjy a b).tdiv 4294967296)):=by simp[qtk _ (qlz a b)]
def F111KV(K Q:Int):PFun:=⟨2,[.tmp 4],
 .seq (.region none [⟨some 4,.mov (.c (.int .u64 0)),none,[]⟩] [0,1])
 (.seq (.region none [⟨some 6,.mov (.t 0),none,[]⟩,
  ⟨some 7,.mov (.t 1),none,[]⟩,
  ⟨some 8,.bin .xor (.t 6) (.t 7),none,[]⟩,
  ⟨some 9,.bin .mul (.t 8) (.c (.int .u64 K)),none,[]⟩,
  ⟨some 5,.mov (.t 9),none,[]⟩] [5])
 (.seq (.region none [⟨some 10,.mov (.t 5),none,[]⟩,
  ⟨some 11,.mov (.t 5),none,[]⟩,
  ⟨some 12,.bin .shr (.t 11) (.c (.int .u64 Q)),none,[]⟩,
  ⟨some 13,.bin .xor (.t 10) (.t 12),none,[]⟩,
  ⟨some 4,.mov (.t 13),none,[]⟩] [4])
 (.ret))),false,false,false⟩
theorem qop (C:Task->Option Res) {K Q s w x m z y:Int} (h1:qkv .xor (.int .u64 s) (.int .u64 w)=some (.int .u64 x)) (h2:qkv .mul (.int .u64 x) (.int .u64 K)=some (.int .u64 m)) (h3:qkv .shr (.int .u64 m) (.int .u64 Q)=some (.int .u64 z)) (h4:qkv .xor (.int .u64 m) (.int .u64 z)=some (.int .u64 y)) :
  qb7 C (F111KV K Q) [.dat (.lit (.int .u64 s)),.dat (.lit (.int .u64 w))] []=some (.ret (.dat (.lit (.int .u64 y))) []):=by
 simp[F111KV,-qkv,h1,h2,h3,h4]
theorem F111_KV:F111=F111KV 11400714819323198485 32:=rfl
theorem qhJ(s w:Int):Z qab (.call 111 [.dat (.lit (.int .u64 s)),.dat (.lit (.int .u64 w))] [])=some (.ret (.dat (.lit (.int .u64 (qky s w)))) []):=by
 refine qaa (pf:=F111) rfl rfl ?_
 rw[qqp,F111_KV]
 exact qop _ (qml s w) (qqq s w) (qqr s w) (qml _ _)
theorem qqs:Z qab (.call 110 [.str ⟨#[101,102,102,101,99,116]⟩,.int 4] [])=some (.ret (.dat (.lit (.int .u64 10587374985770004219))) []):=qeZ (n:=40) (by kernel_rfl)
theorem qv4 {B a b c d a' b' c' d' x1 x2 x3 x4 x5:Int} (f:Bool) (hB:Z qab (.call 110 [.str ⟨#[101,102,102,101,99,116]⟩,.int 4] [])=some (.ret (.dat (.lit (.int .u64 B))) []))
  (ha:IntKind.u64.wrap a=a') (hb:IntKind.u64.wrap b=b') (hc:IntKind.u64.wrap c=c') (hd:IntKind.u64.wrap d=d')
  (m1:Z qab (.call 111 [.dat (.lit (.int .u64 B)),.dat (.lit (.int .u64 a'))] [])=some (.ret (.dat (.lit (.int .u64 x1))) [])) (m2:Z qab (.call 111 [.dat (.lit (.int .u64 x1)),.dat (.lit (.int .u64 b'))] [])=some (.ret (.dat (.lit (.int .u64 x2))) [])) (m3:Z qab (.call 111 [.dat (.lit (.int .u64 x2)),.dat (.lit (.int .u64 c'))] [])=some (.ret (.dat (.lit (.int .u64 x3))) [])) (m4:Z qab (.call 111 [.dat (.lit (.int .u64 x3)),.dat (.lit (.int .u64 d'))] [])=some (.ret (.dat (.lit (.int .u64 x4))) [])) (m5:Z qab (.call 111 [.dat (.lit (.int .u64 x4)),.dat (.lit (.int .u64 0))] [])=some (.ret (.dat (.lit (.int .u64 x5))) [])) :
  Z qab (.call 109 [.str ⟨#[101,102,102,101,99,116]⟩,.dat (.sl [.lit (.int .i64 a),.lit (.int .i64 b),.lit (.int .i64 c),.lit (.int .i64 d)] 4 f)] [])=some (.ret (.dat (.lit (.int .u64 x5))) []):=by
 refine qaa (pf:=F109) rfl rfl ?_
 simp[F109,qnG,hB,ha,hb,hc,hd,m1,m2,m3,m4,m5,qaf]
theorem qtl(a b c d:Int)(f:Bool):Z qab (.call 109 [.str ⟨#[101,102,102,101,99,116]⟩,.dat (.sl [.lit (.int .i64 a),.lit (.int .i64 b),.lit (.int .i64 c),.lit (.int .i64 d)] 4 f)] [])=some (.ret (.dat (.lit (.int .u64 (qv3 a b c d)))) []):=
 qv4 f qqs rfl rfl rfl rfl (qhJ _ _) (qhJ _ _) (qhJ _ _) (qhJ _ _) (qhJ _ _)
theorem qoq:Z qab (.call 50 [] [])=some (.ret (.bool true) []):=qeZ (n:=400) (by kernel_rfl)
end
section
open F
attribute [local simp] V.len qag
def qeS(n lo hi:Int):Int:=if n<lo then lo else if n > hi then hi else n
def qry(n:Int):Int:=qeS n (-2147483647) 2147483647
def qf8(b:Bool):Int:=if b then 1 else 0
def appI:Nat->Int->Int->Int
 |9,a,b=>qry (wr (a+b))
 |10,a,b=>qry (wr (a-b))
 |11,a,b=>qry (wr (a*b))
 |12,a,b=>if b=0 then 0 else qry (wr (a.tdiv b))
 |13,a,_=>qry (wr (0-a))
 |14,a,b=>qf8 (decide (a<b))
 |15,a,b=>qf8 (decide (a<=b))
 |16,a,b=>qf8 (decide (a=b))
 |_,a,_=>qf8 (decide (a=0))
theorem qfd(n lo hi:Int):Z qab (.call 108 [.int n,.int lo,.int hi] [])=some (.ret (.int (qeS n lo hi)) []):=by
 refine qaa (pf:=F108) rfl rfl ?_
 by_cases h:n<lo
 ·simp[F108,h,qeS]
 ·by_cases h2:hi<n
  ·simp[F108,h,h2,qeS]
  ·simp[F108,h,h2,qeS]
theorem qrz(n lo hi:Int):Z qab (.call 78 [.int n,.int lo,.int hi] [])=some (.ret (.int (qeS n lo hi)) []):=by
 refine qaa (pf:=F78) rfl rfl ?_
 by_cases h:n<lo
 ·simp[F78,h,qeS]
 ·by_cases h2:hi<n
  ·simp[F78,h,h2,qeS]
  ·simp[F78,h,h2,qeS]
theorem qi1(n:Int):Z qab (.call 88 [.int n] [])=some (.ret (.int (qry n)) []):=by
 refine qaa (pf:=F88) rfl rfl ?_
 simp[F88,qfd,qry]
theorem qi2(n:Int):Z qab (.call 81 [.int n] [])=some (.ret (.int (qry n)) []):=by
 refine qaa (pf:=F81) rfl rfl ?_
 simp[F81,qrz,qry]
theorem qjZ(b:Bool):Z qab (.call 93 [.bool b] [])=some (.ret (.int (qf8 b)) []):=by
 refine qaa (pf:=F93) rfl rfl ?_
 cases b<;>simp[F93,qf8]
theorem qh7(b:Bool):Z qab (.call 61 [.bool b] [])=some (.ret (.int (qf8 b)) []):=by
 refine qaa (pf:=F61) rfl rfl ?_
 cases b<;>simp[F61,qf8]
theorem qlR(a b:Int) : ∀ p∈[(87,9),(89,10),(90,11),(91,12),(92,14),(94,15),(95,16)],Z qab (.call p.1 [.int a,.int b] [])=some (.ret (.int (appI p.2 a b)) []):=by
 intro p hp
 simp only[Wp,Ws,or_false] at hp
 rcases hp with rfl|rfl|rfl|rfl|rfl|rfl|rfl
 ·refine qaa (pf:=F87) rfl rfl ?_
  simp[F87,qi1,appI]
 ·refine qaa (pf:=F89) rfl rfl ?_
  simp[F89,qi1,appI]
 ·refine qaa (pf:=F90) rfl rfl ?_
  simp[F90,qi1,appI]
 ·refine qaa (pf:=F91) rfl rfl ?_
  by_cases h:b=0
  ·simp[F91,qi1,appI,h]
  ·simp[F91,qi1,appI,h]
 ·refine qaa (pf:=F92) rfl rfl ?_
  simp[F92,qjZ,appI]
 ·refine qaa (pf:=F94) rfl rfl ?_
  simp[F94,qjZ,appI]
 ·refine qaa (pf:=F95) rfl rfl ?_
  simp[F95,qjZ,appI]
theorem qzW(a:Int) : ∀ p∈[(96,13),(97,17)],Z qab (.call p.1 [.int a] [])=some (.ret (.int (appI p.2 a 0)) []):=by
 intro p hp
 simp only[Wp,Ws,or_false] at hp
 rcases hp with rfl|rfl
 ·refine qaa (pf:=F96) rfl rfl ?_
  simp[F96,qi1,appI]
 ·refine qaa (pf:=F97) rfl rfl ?_
  simp[F97,qjZ,appI]
theorem qgE(a b:Int)(op:Nat)(h1:9<=op)(h2:op<=17):Z qab (.call 71 [.int op,.int a,.int b] [])=some (.ret (.int (appI op a b)) []):=by
 refine qaa (pf:=F71) rfl rfl ?_
 obtain rfl|rfl|rfl|rfl|rfl|rfl|rfl|rfl|rfl:op=9\/op=10\/op=11\/op=12\/op=13\/op=14\/op=15\/op=16\/op=17:=by omega
 ·simp[F71,qi2,appI]
 ·simp[F71,qi2,appI]
 ·simp[F71,qi2,appI]
 ·by_cases h:b=0
  ·simp[F71,qi2,appI,h]
  ·simp[F71,qi2,appI,h]
 ·simp[F71,qi2,appI]
 ·simp[F71,qh7,appI]
 ·simp[F71,qh7,appI]
 ·simp[F71,qh7,appI]
 ·simp[F71,qh7,appI]
def qqb(n b:Int):Int:=if n=0\/n=1 then qeS b (-1048576) 1048576 else if n=2\/n=3 then qeS b (-16384) 16384 else b
theorem qzg(n b:Int):Z qab (.call 102 [.int n,.int b] [])=some (.ret (.int (qqb n b)) []):=by
 refine qaa (pf:=F102) rfl rfl ?_
 by_cases h0:n=0
 ·simp[F102,qfd,qqb,h0]
 ·by_cases h1:n=1
  ·simp[F102,qfd,qqb,h0,h1]
  ·by_cases h2:n=2
   ·simp[F102,qfd,qqb,h0,h1,h2]
   ·by_cases h3:n=3
    ·simp[F102,qfd,qqb,h0,h1,h2,h3]
    ·simp[F102,qfd,qqb,h0,h1,h2,h3]
end
section
open F
attribute [local simp] V.len qag
structure Su where
 p:Nat
 nb:Nat
 bs:List D
 ds:List D
 nd:Nat
 fog:Int
 gy:Int
 push:Int
 drag:Int
 rest:Int
 rounds:Int
def iD(n:Int):D := .lit (.int .i64 n)
def qmZ:List D:=[iD (-12000),iD (-9000),iD (-1),iD 9000,iD 0,iD 0,iD 12000,iD 9000,iD 0,iD (-9000),iD 12000,iD (-1)]
def Su.c(s:Su):List D:=[.lit (.int .i64 s.p),.sl s.bs s.nb false,.lit (.int .i64 (-12000)),.lit (.int .i64 (-9000)),.lit (.int .i64 12000),.lit (.int .i64 9000),.sl qmZ 3 true,.sl s.ds s.nd true,
 .lit (.int .i64 s.fog),.lit (.int .i64 0),.lit (.int .i64 s.gy),.lit (.int .i64 s.push),.lit (.int .i64 s.drag),.lit (.int .i64 s.rest),.lit (.int .i64 s.rounds),.lit (.int .i64 60)]
def Su.d(s:Su):V := .dat (.agg s.c)
def Su.n(s:Su):Nat:=48+4*s.p+8*s.nb
structure Su.ok(s:Su):Prop where
 p1:1<=s.p
 p3:s.p<=3
 b1:s.p<=s.nb
 b5:s.nb<=s.p+2
def bodyI(s:Su)(b:Int):Int:=if b<0\/(s.nb:Int)<=b then -1 else 48+4*s.p+8*b
theorem qj5(s:Su)(h:s.ok)(b:Int):Z qab (.call 100 [s.d,.int b] [])=some (.ret (.int (bodyI s b)) []):=by
 refine qaa (pf:=F100) rfl rfl ?_
 have h1:=h.p3; have h2:=h.b5
 by_cases h3:b<0
 ·simp[F100,Su.d,Su.c,h3,bodyI]
 ·by_cases h4:(s.nb:Int)<=b
  ·simp[F100,Su.d,Su.c,h3,h4,bodyI]
  ·have w1:=qaf (8*b) (by omega)
   have w2:=qaf (4*(s.p:Int)) (by omega)
   have w3:=qaf (48+4*(s.p:Int)) (by omega)
   have w4:=qaf (48+4*(s.p:Int)+8*b) (by omega)
   simp[F100,Su.d,Su.c,h3,h4,bodyI,w1,w2,w3,w4]
theorem qpK(s:Su)(h:s.ok)(b:Int):Z qab (.call 66 [s.d,.int b] [])=some (.ret (.int (bodyI s b)) []):=by
 refine qaa (pf:=F66) rfl rfl ?_
 have h1:=h.p3; have h2:=h.b5
 by_cases h3:b<0
 ·simp[F66,Su.d,Su.c,h3,bodyI]
 ·by_cases h4:(s.nb:Int)<=b
  ·simp[F66,Su.d,Su.c,h3,h4,bodyI]
  ·have w1:=qaf (8*b) (by omega)
   have w2:=qaf (4*(s.p:Int)) (by omega)
   have w3:=qaf (48+4*(s.p:Int)) (by omega)
   have w4:=qaf (48+4*(s.p:Int)+8*b) (by omega)
   simp[F66,Su.d,Su.c,h3,h4,bodyI,w1,w2,w3,w4]
theorem qxn(s:Su)(h:s.ok):Z qab (.call 65 [s.d] [])=some (.ret (.int s.n) []):=by
 refine qaa (pf:=F65) rfl rfl ?_
 have h1:=h.p3; have h2:=h.b5
 have w1:=qaf (8*(s.nb:Int)) (by omega)
 have w2:=qaf (4*(s.p:Int)) (by omega)
 have w3:=qaf (48+4*(s.p:Int)) (by omega)
 have w4:=qaf (48+4*(s.p:Int)+8*(s.nb:Int)) (by omega)
 simp[F65,Su.d,Su.c,Su.n,w1,w2,w3,w4]
def popsN:Nat->Nat
 |3|4|13|17|19=>1
 |5|9|10|11|12|14|15|16|20=>2
 |_=>0
def pushN:Nat->Nat
 |3|5|18|19|20|21=>0
 |_=>1
def operN:Nat->Nat
 |2|3=>16
 |4|5=>8
 |_=>0
theorem qAJ : ∀ op:Nat,1<=op->op<=21->qaj G_arenanet_vm_effects (op*3) 1=some [.lit (.int .i64 (popsN op))]
 |1,_,_=>by kernel_rfl
 |2,_,_=>by kernel_rfl
 |3,_,_=>by kernel_rfl
 |4,_,_=>by kernel_rfl
 |5,_,_=>by kernel_rfl
 |6,_,_=>by kernel_rfl
 |7,_,_=>by kernel_rfl
 |8,_,_=>by kernel_rfl
 |9,_,_=>by kernel_rfl
 |10,_,_=>by kernel_rfl
 |11,_,_=>by kernel_rfl
 |12,_,_=>by kernel_rfl
 |13,_,_=>by kernel_rfl
 |14,_,_=>by kernel_rfl
 |15,_,_=>by kernel_rfl
 |16,_,_=>by kernel_rfl
 |17,_,_=>by kernel_rfl
 |18,_,_=>by kernel_rfl
 |19,_,_=>by kernel_rfl
 |20,_,_=>by kernel_rfl
 |21,_,_=>by kernel_rfl
 |n+22,_,h=>absurd h (by omega)
theorem qAK : ∀ op:Nat,1<=op->op<=21->qaj G_arenanet_vm_effects (op*3+1) 1=some [.lit (.int .i64 (pushN op))]
 |1,_,_=>by kernel_rfl
 |2,_,_=>by kernel_rfl
 |3,_,_=>by kernel_rfl
 |4,_,_=>by kernel_rfl
 |5,_,_=>by kernel_rfl
 |6,_,_=>by kernel_rfl
 |7,_,_=>by kernel_rfl
 |8,_,_=>by kernel_rfl
 |9,_,_=>by kernel_rfl
 |10,_,_=>by kernel_rfl
 |11,_,_=>by kernel_rfl
 |12,_,_=>by kernel_rfl
 |13,_,_=>by kernel_rfl
 |14,_,_=>by kernel_rfl
 |15,_,_=>by kernel_rfl
 |16,_,_=>by kernel_rfl
 |17,_,_=>by kernel_rfl
 |18,_,_=>by kernel_rfl
 |19,_,_=>by kernel_rfl
 |20,_,_=>by kernel_rfl
 |21,_,_=>by kernel_rfl
 |n+22,_,h=>absurd h (by omega)
theorem quP : ∀ op:Nat,1<=op->op<=21->qaj G_arenanet_vm_effects (op*3) 3=some [.lit (.int .i64 (popsN op)),.lit (.int .i64 (pushN op)),.lit (.int .i64 (operN op))]
 |1,_,_=>by kernel_rfl
 |2,_,_=>by kernel_rfl
 |3,_,_=>by kernel_rfl
 |4,_,_=>by kernel_rfl
 |5,_,_=>by kernel_rfl
 |6,_,_=>by kernel_rfl
 |7,_,_=>by kernel_rfl
 |8,_,_=>by kernel_rfl
 |9,_,_=>by kernel_rfl
 |10,_,_=>by kernel_rfl
 |11,_,_=>by kernel_rfl
 |12,_,_=>by kernel_rfl
 |13,_,_=>by kernel_rfl
 |14,_,_=>by kernel_rfl
 |15,_,_=>by kernel_rfl
 |16,_,_=>by kernel_rfl
 |17,_,_=>by kernel_rfl
 |18,_,_=>by kernel_rfl
 |19,_,_=>by kernel_rfl
 |20,_,_=>by kernel_rfl
 |21,_,_=>by kernel_rfl
 |n+22,_,h=>absurd h (by omega)
def quQ(op:Nat)(n sp:Int):Bool:=decide (sp<=16)&&(decide (popsN op<=sp)&&(decide (sp-popsN op+pushN op<=16)&&(decide (operN op=0)||(decide (0<=n)&&decide (n<operN op)))))
theorem qpL(op:Nat):popsN op<=2:=by unfold popsN; split<;>omega
theorem qpM(op:Nat):pushN op<=1:=by unfold pushN; split<;>omega
theorem qxo(op:Nat)(n sp:Int)(h1:1<=op)(h2:op<=21):Z qab (.call 63 [.dat (.agg [.lit (.int .i64 op),.lit (.int .i64 n)]),.int sp] [])=some (.ret (.bool (quQ op n sp)) []):=by
 refine qaa (pf:=F63) rfl rfl ?_
 have h3 : ¬ (op:Int)<1:=by omega
 have h4 : ¬ (21:Int)<op:=by omega
 have h5:=quP op h1 h2
 have h6:=qpL op
 have h7:=qpM op
 have h8:(op:Int)<22:=by omega
 unfold quQ
 generalize popsN op=a at *
 generalize pushN op=b at *
 generalize operN op=c at *
 by_cases k1:16<sp
 ·have k2 : ¬ sp<=16:=by omega
  simp[F63,h3,h4,k1,k2]
 ·have k2:sp<=16:=by omega
  by_cases k3:sp<a
  ·have k4 : ¬ (a:Int)<=sp:=by omega
   simp[F63,h3,h4,h5,h8,k1,k2,k3,k4]
  ·have k4:(a:Int)<=sp:=by omega
   have w1:=qaf (sp-a) (by omega)
   have w2:=qaf (sp-a+b) (by omega)
   by_cases k5:(16:Int)<sp-a+b
   ·have k6 : ¬ sp-a+b<=16:=by omega
    simp[F63,h3,h4,h5,h8,k1,k2,k3,k4,k5,k6,w1,w2]
   ·have k6:sp-a+b<=16:=by omega
    by_cases k7:c=0
    ·simp[F63,h3,h4,h5,h8,k1,k2,k3,k4,k5,k6,k7,w1,w2]
    ·by_cases k8:0<=n
     ·simp[F63,h3,h4,h5,h8,k1,k2,k3,k4,k5,k6,k7,k8,w1,w2]
     ·simp[F63,h3,h4,h5,h8,k1,k2,k3,k4,k5,k6,k7,k8,w1,w2]
end
section
open F
attribute [local simp] V.len qag
def exV(s:Su)(cs:List Int)(op:Nat)(n a b:Int):Int:=
 match op with
 |1=>n
 |2=>getI cs (32+n)
 |4=>if bodyI s a<0 then 0 else getI cs (bodyI s a+n)
 |6=>getI cs 9
 |7=>getI cs 10
 |8=>getI cs 0
 |3|5|18|19|20|21=>0
 |k=>appI k a b
def qvz(cs:List Int)(a b:Int):Int:=wr (qti .u64 (qv3 (getI cs 12) (getI cs 0) a b) 1)
def exC(s:Su)(cs:List Int)(op:Nat)(n a b:Int):List Int:=
 match op with
 |3=>qaK cs (32+n) a
 |5=>if bodyI s a<0 then cs else qaK cs (bodyI s a+n) (qqb n b)
 |18=>qaK cs 6 n
 |19=>if a=0 then qaK cs 6 n else cs
 |20=>if 40<=getI cs 11 then cs else qaK (qaK cs 12 (qvz cs a b)) 11 (wr (getI cs 11+1))
 |_=>cs
def exB(cs:List Int)(op:Nat):Bool:=decide (op=20)&&decide (getI cs 11<40)
def exE(cs:List Int)(op:Nat)(a b:Int):List Int:=if exB cs op then [getI cs 0,getI cs 11,a,b] else [0,0,0,0]
section
variable{s:Su}{cs:List Int}{N:Nat}{lg:List D}{k:Nat}{n a b:Int}
theorem ld1:Z qab (.call 82 [.iface 0 (.ptr 0 0),.int n] (qak cs N lg k (k*2)))=some (.ret (.int n) (qak cs N lg k (k*2))):=by
 refine qaa (pf:=F82) rfl rfl ?_
 simp[F82,qak,Wa]
theorem ld2(hN:cs.length=N)(h:48<=N)(h0:0<=n)(h1:n<16):Z qab (.call 83 [.iface 0 (.ptr 0 0),.int n] (qak cs N lg k (k*2)))=some (.ret (.int (getI cs (32+n))) (qak cs N lg k (k*2))):=by
 refine qaa (pf:=F83) rfl rfl ?_
 have g:=qaS (cs:=cs) (n:=N) (lg:=lg) (k:=k) (t:=k*2) (i:=32+n) hN (by omega) (by omega)
 have w:=qaf (32+n) (by omega)
 simp only[qak] at g
 simp[F83,qak,Wa,g,w]
theorem ld3(hN:cs.length=N)(h:48<=N):Z qab (.call 84 [.iface 0 (.ptr 0 0),.int n] (qak cs N lg k (k*2)))=some (.ret (.int (getI cs 9)) (qak cs N lg k (k*2))):=by
 refine qaa (pf:=F84) rfl rfl ?_
 have g:=qaS (cs:=cs) (n:=N) (lg:=lg) (k:=k) (t:=k*2) (i:=9) hN (by omega) (by omega)
 simp only[qak] at g
 simp[F84,qak,Wa,g]
theorem ld4(hN:cs.length=N)(h:48<=N):Z qab (.call 85 [.iface 0 (.ptr 0 0),.int n] (qak cs N lg k (k*2)))=some (.ret (.int (getI cs 10)) (qak cs N lg k (k*2))):=by
 refine qaa (pf:=F85) rfl rfl ?_
 have g:=qaS (cs:=cs) (n:=N) (lg:=lg) (k:=k) (t:=k*2) (i:=10) hN (by omega) (by omega)
 simp only[qak] at g
 simp[F85,qak,Wa,g]
theorem ld5(hN:cs.length=N)(h:48<=N):Z qab (.call 86 [.iface 0 (.ptr 0 0),.int n] (qak cs N lg k (k*2)))=some (.ret (.int (getI cs 0)) (qak cs N lg k (k*2))):=by
 refine qaa (pf:=F86) rfl rfl ?_
 have g:=qaS (cs:=cs) (n:=N) (lg:=lg) (k:=k) (t:=k*2) (i:=0) hN (by omega) (by omega)
 simp only[qak] at g
 simp[F86,qak,Wa,g]
theorem ot1 (hN:cs.length=N) (h:48<=N) (hl:lg.length=k*2) (hk:k<2^30) (h0:0<=n) (h1:n<16):Z qab (.call 98 [.iface 0 (.ptr 0 0),s.d,.dat (.agg [.lit (.int .i64 n),.lit (.int .i64 a),.lit (.int .i64 b)])] (qak cs N lg k (k*2))) =
  some (.ret (.tup [.int 0,.dat (.agg (qan [0,0,0,0])),.bool false]) (qak (qaK cs (32+n) a) N (lg++ent cs (32+n)) (k+1) ((k+1)*2))):=by
 refine qaa (pf:=F98) rfl rfl ?_
 have g:=qcp (cs:=cs) (n:=N) (lg:=lg) (k:=k) (i:=32+n) (v:=a) hN (by omega) (by omega) hl hk
 have w:=qaf (32+n) (by omega)
 simp only[qak] at g
 simp[F98,qak,Su.d,Su.c,Wa,g,w,qan]
theorem ot4 (hN:cs.length=N) (h:48<=N) (hl:lg.length=k*2) (hk:k<2^30):Z qab (.call 103 [.iface 0 (.ptr 0 0),s.d,.dat (.agg [.lit (.int .i64 n),.lit (.int .i64 a),.lit (.int .i64 b)])] (qak cs N lg k (k*2))) =
  some (.ret (.tup [.int 0,.dat (.agg (qan [0,0,0,0])),.bool false]) (qak (qaK cs 6 n) N (lg++ent cs 6) (k+1) ((k+1)*2))):=by
 refine qaa (pf:=F103) rfl rfl ?_
 have g:=qcp (cs:=cs) (n:=N) (lg:=lg) (k:=k) (i:=6) (v:=n) hN (by omega) (by omega) hl hk
 simp only[qak] at g
 simp[F103,qak,Su.d,Su.c,Wa,g,qan]
theorem ot5 (hN:cs.length=N) (h:48<=N) (hl:lg.length=k*2) (hk:k<2^30) (ha:a=0):Z qab (.call 104 [.iface 0 (.ptr 0 0),s.d,.dat (.agg [.lit (.int .i64 n),.lit (.int .i64 a),.lit (.int .i64 b)])] (qak cs N lg k (k*2))) =
  some (.ret (.tup [.int 0,.dat (.agg (qan [0,0,0,0])),.bool false]) (qak (qaK cs 6 n) N (lg++ent cs 6) (k+1) ((k+1)*2))):=by
 refine qaa (pf:=F104) rfl rfl ?_
 have g:=qcp (cs:=cs) (n:=N) (lg:=lg) (k:=k) (i:=6) (v:=n) hN (by omega) (by omega) hl hk
 simp only[qak] at g
 simp[F104,qak,Su.d,Su.c,Wa,g,qan,ha]
theorem qAO (ha:a≠0):Z qab (.call 104 [.iface 0 (.ptr 0 0),s.d,.dat (.agg [.lit (.int .i64 n),.lit (.int .i64 a),.lit (.int .i64 b)])] (qak cs N lg k (k*2))) =
  some (.ret (.tup [.int 0,.dat (.agg (qan [0,0,0,0])),.bool false]) (qak cs N lg k (k*2))):=by
 refine qaa (pf:=F104) rfl rfl ?_
 simp[F104,qak,Su.d,Su.c,Wa,qan,ha]
theorem ot7:Z qab (.call 107 [.iface 0 (.ptr 0 0),s.d,.dat (.agg [.lit (.int .i64 n),.lit (.int .i64 a),.lit (.int .i64 b)])] (qak cs N lg k (k*2))) =
  some (.ret (.tup [.int 0,.dat (.agg (qan [0,0,0,0])),.bool false]) (qak cs N lg k (k*2))):=by
 refine qaa (pf:=F107) rfl rfl ?_
 simp[F107,qak,Su.d,Su.c,Wa,qan]
theorem ot2 (hs:s.ok) (hN:cs.length=N) (h:N=s.n) (h0:0<=n) (h1:n<8):Z qab (.call 99 [.iface 0 (.ptr 0 0),s.d,.dat (.agg [.lit (.int .i64 n),.lit (.int .i64 a),.lit (.int .i64 b)])] (qak cs N lg k (k*2))) =
  some (.ret (.tup [.int (if bodyI s a<0 then 0 else getI cs (bodyI s a+n)),.dat (.agg (qan [0,0,0,0])),.bool false]) (qak cs N lg k (k*2))):=by
 refine qaa (pf:=F99) rfl rfl ?_
 have hb:=qj5 s hs a
 have hp:=hs.p3; have hq:=hs.b5
 by_cases h3:bodyI s a<0
 ·have h4 : ¬ 0<=bodyI s a:=by omega
  simp only[Su.d,Su.c] at hb
  simp[F99,qak,Su.d,Su.c,Wa,qan,hb,h3,h4]
 ·have h4:0<=bodyI s a:=by omega
  have h5:bodyI s a+8<=N:=by
   unfold bodyI at h3 ⊢
   rw[h]; unfold Su.n
   split at h3
   ·omega
   ·rename_i h6; rw[if_neg h6]; omega
  have g:=qaS (cs:=cs) (n:=N) (lg:=lg) (k:=k) (t:=k*2) (i:=bodyI s a+n) hN (by omega) (by omega)
  have hN2:N<=1000:=by rw[h]; unfold Su.n; omega
  have w:=qaf (bodyI s a+n) (by omega)
  simp only[Su.d,Su.c] at hb
  simp only[qak] at g
  simp[F99,qak,Su.d,Su.c,Wa,qan,hb,h3,h4,g,w]
theorem ot3 (hs:s.ok) (hN:cs.length=N) (h:N=s.n) (hl:lg.length=k*2) (hk:k<2^30) (h0:0<=n) (h1:n<8) (h3 : ¬ bodyI s a<0):Z qab (.call 101 [.iface 0 (.ptr 0 0),s.d,.dat (.agg [.lit (.int .i64 n),.lit (.int .i64 a),.lit (.int .i64 b)])] (qak cs N lg k (k*2))) =
  some (.ret (.tup [.int 0,.dat (.agg (qan [0,0,0,0])),.bool false]) (qak (qaK cs (bodyI s a+n) (qqb n b)) N (lg++ent cs (bodyI s a+n)) (k+1) ((k+1)*2))):=by
 refine qaa (pf:=F101) rfl rfl ?_
 have hb:=qj5 s hs a
 have hp:=hs.p3; have hq:=hs.b5
 have h4:0<=bodyI s a:=by omega
 have h5:bodyI s a+8<=N:=by
  unfold bodyI at h3 ⊢
  rw[h]; unfold Su.n
  split at h3
  ·omega
  ·rename_i h6; rw[if_neg h6]; omega
 have g:=qcp (cs:=cs) (n:=N) (lg:=lg) (k:=k) (i:=bodyI s a+n) (v:=qqb n b) hN (by omega) (by omega) hl hk
 have hN2:N<=1000:=by rw[h]; unfold Su.n; omega
 have w:=qaf (bodyI s a+n) (by omega)
 simp only[Su.d,Su.c] at hb
 simp only[qak] at g
 simp[F101,qak,Su.d,Su.c,Wa,qan,hb,h3,h4,g,w,qzg,qa9,qaq]
theorem qAP (hs:s.ok) (h3:bodyI s a<0):Z qab (.call 101 [.iface 0 (.ptr 0 0),s.d,.dat (.agg [.lit (.int .i64 n),.lit (.int .i64 a),.lit (.int .i64 b)])] (qak cs N lg k (k*2))) =
  some (.ret (.tup [.int 0,.dat (.agg (qan [0,0,0,0])),.bool false]) (qak cs N lg k (k*2))):=by
 refine qaa (pf:=F101) rfl rfl ?_
 have hb:=qj5 s hs a
 have h4 : ¬ 0<=bodyI s a:=by omega
 simp only[Su.d,Su.c] at hb
 simp[F101,qak,Su.d,Su.c,Wa,qan,hb,h3,h4]
end
end
section
open F
attribute [local simp] V.len qag
section
variable{s:Su}{cs:List Int}{N:Nat}{lg:List D}{k:Nat}{n a b:Int}
theorem qw1 (hN:cs.length=N) (h:48<=N) (hc:40<=getI cs 11):Z qab (.call 106 [.iface 0 (.ptr 0 0),.int a,.int b] (qak cs N lg k (k*2))) =
  some (.ret (.tup [.dat (.agg (qan [0,0,0,0])),.bool false]) (qak cs N lg k (k*2))):=by
 refine qaa (pf:=F106) rfl rfl ?_
 have g:=qaS (cs:=cs) (n:=N) (lg:=lg) (k:=k) (t:=k*2) (i:=11) hN (by omega) (by omega)
 simp only[qak] at g
 generalize getI cs 11=c at *
 simp[F106,qak,Wa,g,hc,qan]
theorem qur {c tk hs h2 hh e:Int} {lg1 lg2:List D} {cs1 cs2:List Int} (hc : ¬ 40<=c) (hc2:wr (c+1)=e) (hf:wr (qti .u64 hh 1)=h2)
  (g1:Z qab (.call 51 [.ptr 0 0,.int 11] (qak cs N lg k (k*2)))=some (.ret (.int c) (qak cs N lg k (k*2))))
  (g2:Z qab (.call 51 [.ptr 0 0,.int 0] (qak cs N lg k (k*2)))=some (.ret (.int tk) (qak cs N lg k (k*2))))
  (g3:Z qab (.call 51 [.ptr 0 0,.int 12] (qak cs N lg k (k*2)))=some (.ret (.int hs) (qak cs N lg k (k*2))))
  (g4:Z qab (.call 109 [.str ⟨#[101,102,102,101,99,116]⟩,.dat (.sl [.lit (.int .i64 hs),.lit (.int .i64 tk),.lit (.int .i64 a),.lit (.int .i64 b)] 4 true)] [])=some (.ret (.dat (.lit (.int .u64 hh))) []))
  (g5:Z qab (.call 114 [.ptr 0 0,.int 12,.int h2] (qak cs N lg k (k*2)))=some (.ret (.tup []) (qak cs1 N lg1 (k+1) ((k+1)*2))))
  (g6:Z qab (.call 114 [.ptr 0 0,.int 11,.int e] (qak cs1 N lg1 (k+1) ((k+1)*2)))=some (.ret (.tup []) (qak cs2 N lg2 (k+2) ((k+2)*2)))) :
  Z qab (.call 106 [.iface 0 (.ptr 0 0),.int a,.int b] (qak cs N lg k (k*2))) =
  some (.ret (.tup [.dat (.agg [.lit (.int .i64 tk),.lit (.int .i64 c),.lit (.int .i64 a),.lit (.int .i64 b)]),.bool true]) (qak cs2 N lg2 (k+2) ((k+2)*2))):=by
 refine qaa (pf:=F106) rfl rfl ?_
 simp only[qak] at g1 g2 g3 g5 g6
 simp[F106,qak,Wa,g1,g2,g3,g4,g5,g6,hc,hc2,hf]
theorem qw2 (hN:cs.length=N) (h:48<=N) (hl:lg.length=k*2) (hk:k<2^29) (hc : ¬ 40<=getI cs 11) : ∃ lg',lg'.length=(k+2)*2 /\
  Z qab (.call 106 [.iface 0 (.ptr 0 0),.int a,.int b] (qak cs N lg k (k*2))) =
  some (.ret (.tup [.dat (.agg (qan [getI cs 0,getI cs 11,a,b])),.bool true]) (qak (qaK (qaK cs 12 (qvz cs a b)) 11 (wr (getI cs 11+1))) N lg' (k+2) ((k+2)*2))):=by
 refine⟨(lg++ent cs 12)++ent (qaK cs 12 (qvz cs a b)) 11,by simp[ent,hl]; omega,?_⟩
 have g5:=qcp (cs:=cs) (n:=N) (lg:=lg) (k:=k) (i:=12) (v:=qvz cs a b) hN (by omega) (by omega) hl (by omega)
 have g6:=qcp (cs:=qaK cs 12 (qvz cs a b)) (n:=N) (lg:=lg++ent cs 12) (k:=k+1) (i:=11) (v:=wr (getI cs 11+1)) (by simp[hN]) (by omega) (by omega) (by simp[ent,hl]; omega) (by omega)
 exact qur hc rfl rfl (qaS hN (by omega) (by omega)) (qaS hN (by omega) (by omega)) (qaS hN (by omega) (by omega)) (qtl _ _ _ _ _) g5 g6
theorem ot6 {x1 x2 x3 x4:Int} {em:Bool} {cs':List Int} {lg':List D} {k':Nat} (he:Z qab (.call 106 [.iface 0 (.ptr 0 0),.int a,.int b] (qak cs N lg k (k*2)))=some (.ret (.tup [.dat (.agg (qan [x1,x2,x3,x4])),.bool em]) (qak cs' N lg' k' (k'*2)))) :
  Z qab (.call 105 [.iface 0 (.ptr 0 0),s.d,.dat (.agg [.lit (.int .i64 n),.lit (.int .i64 a),.lit (.int .i64 b)])] (qak cs N lg k (k*2))) =
  some (.ret (.tup [.int 0,.dat (.agg (qan [x1,x2,x3,x4])),.bool em]) (qak cs' N lg' k' (k'*2))):=by
 refine qaa (pf:=F105) rfl rfl ?_
 simp only[qak] at he
 simp[F105,qak,Su.d,Su.c,Wa,he,qan] at he ⊢
end
end
section
open F
attribute [local simp] V.len qag
theorem qAh:Z qab (.call 74 [.int 1] [])=some (.ret (.fn 82 [] []) []):=qeZ (n:=2) (by kernel_rfl)
theorem qyw:Z qab (.call 74 [.int 2] [])=some (.ret (.fn 83 [] []) []):=qeZ (n:=2) (by kernel_rfl)
theorem qAi:Z qab (.call 77 [.int 3] [])=some (.ret (.fn 98 [] []) []):=qeZ (n:=2) (by kernel_rfl)
theorem qAj:Z qab (.call 77 [.int 4] [])=some (.ret (.fn 99 [] []) []):=qeZ (n:=2) (by kernel_rfl)
theorem qAk:Z qab (.call 77 [.int 5] [])=some (.ret (.fn 101 [] []) []):=qeZ (n:=2) (by kernel_rfl)
theorem qAl:Z qab (.call 74 [.int 6] [])=some (.ret (.fn 84 [] []) []):=qeZ (n:=2) (by kernel_rfl)
theorem qAm:Z qab (.call 74 [.int 7] [])=some (.ret (.fn 85 [] []) []):=qeZ (n:=2) (by kernel_rfl)
theorem qyx:Z qab (.call 74 [.int 8] [])=some (.ret (.fn 86 [] []) []):=qeZ (n:=2) (by kernel_rfl)
theorem qAn:Z qab (.call 75 [.int 9] [])=some (.ret (.fn 87 [] []) []):=qeZ (n:=2) (by kernel_rfl)
theorem qyy:Z qab (.call 75 [.int 10] [])=some (.ret (.fn 89 [] []) []):=qeZ (n:=2) (by kernel_rfl)
theorem qyz:Z qab (.call 75 [.int 11] [])=some (.ret (.fn 90 [] []) []):=qeZ (n:=2) (by kernel_rfl)
theorem qyA:Z qab (.call 75 [.int 12] [])=some (.ret (.fn 91 [] []) []):=qeZ (n:=2) (by kernel_rfl)
theorem qyB:Z qab (.call 76 [.int 13] [])=some (.ret (.fn 96 [] []) []):=qeZ (n:=2) (by kernel_rfl)
theorem qyC:Z qab (.call 75 [.int 14] [])=some (.ret (.fn 92 [] []) []):=qeZ (n:=2) (by kernel_rfl)
theorem qyD:Z qab (.call 75 [.int 15] [])=some (.ret (.fn 94 [] []) []):=qeZ (n:=2) (by kernel_rfl)
theorem qyE:Z qab (.call 75 [.int 16] [])=some (.ret (.fn 95 [] []) []):=qeZ (n:=2) (by kernel_rfl)
theorem qyF:Z qab (.call 76 [.int 17] [])=some (.ret (.fn 97 [] []) []):=qeZ (n:=2) (by kernel_rfl)
theorem qyG:Z qab (.call 77 [.int 18] [])=some (.ret (.fn 103 [] []) []):=qeZ (n:=2) (by kernel_rfl)
theorem qyH:Z qab (.call 77 [.int 19] [])=some (.ret (.fn 104 [] []) []):=qeZ (n:=2) (by kernel_rfl)
theorem qyI:Z qab (.call 77 [.int 20] [])=some (.ret (.fn 105 [] []) []):=qeZ (n:=2) (by kernel_rfl)
theorem qyJ:Z qab (.call 77 [.int 21] [])=some (.ret (.fn 107 [] []) []):=qeZ (n:=2) (by kernel_rfl)
def exR(v:Int)(e:List Int)(em:Bool):V := .tup [.int v,.dat (.agg (qan e)),.bool em]
def qbR(n a b:Int):V := .dat (.agg [.lit (.int .i64 n),.lit (.int .i64 a),.lit (.int .i64 b)])
section
variable{s:Su}{cs cs':List Int}{N:Nat}{lg lg':List D}{k k':Nat}{n a b v x1 x2 x3 x4:Int}{em:Bool}
theorem qAo (h:Z qab (.call 82 [.iface 0 (.ptr 0 0),.int n] (qak cs N lg k (k*2)))=some (.ret (.int v) (qak cs N lg k (k*2)))) :
  Z qab (.call 64 [.int 1,.iface 0 (.ptr 0 0),s.d,qbR n a b] (qak cs N lg k (k*2)))=some (.ret (exR v [0,0,0,0] false) (qak cs N lg k (k*2))):=by
 refine qaa (pf:=F64) rfl rfl ?_
 simp only[qak] at h
 simp[F64,qak,Su.d,Su.c,qbR,exR,Wa,qAh,h,qan,qa9,qaq]
theorem ex2 (h:Z qab (.call 83 [.iface 0 (.ptr 0 0),.int n] (qak cs N lg k (k*2)))=some (.ret (.int v) (qak cs N lg k (k*2)))) :
  Z qab (.call 64 [.int 2,.iface 0 (.ptr 0 0),s.d,qbR n a b] (qak cs N lg k (k*2)))=some (.ret (exR v [0,0,0,0] false) (qak cs N lg k (k*2))):=by
 refine qaa (pf:=F64) rfl rfl ?_
 simp only[qak] at h
 simp[F64,qak,Su.d,Su.c,qbR,exR,Wa,qyw,h,qan,qa9,qaq]
theorem ex6 (h:Z qab (.call 84 [.iface 0 (.ptr 0 0),.int n] (qak cs N lg k (k*2)))=some (.ret (.int v) (qak cs N lg k (k*2)))) :
  Z qab (.call 64 [.int 6,.iface 0 (.ptr 0 0),s.d,qbR n a b] (qak cs N lg k (k*2)))=some (.ret (exR v [0,0,0,0] false) (qak cs N lg k (k*2))):=by
 refine qaa (pf:=F64) rfl rfl ?_
 simp only[qak] at h
 simp[F64,qak,Su.d,Su.c,qbR,exR,Wa,qAl,h,qan,qa9,qaq]
theorem ex7 (h:Z qab (.call 85 [.iface 0 (.ptr 0 0),.int n] (qak cs N lg k (k*2)))=some (.ret (.int v) (qak cs N lg k (k*2)))) :
  Z qab (.call 64 [.int 7,.iface 0 (.ptr 0 0),s.d,qbR n a b] (qak cs N lg k (k*2)))=some (.ret (exR v [0,0,0,0] false) (qak cs N lg k (k*2))):=by
 refine qaa (pf:=F64) rfl rfl ?_
 simp only[qak] at h
 simp[F64,qak,Su.d,Su.c,qbR,exR,Wa,qAm,h,qan,qa9,qaq]
theorem ex8 (h:Z qab (.call 86 [.iface 0 (.ptr 0 0),.int n] (qak cs N lg k (k*2)))=some (.ret (.int v) (qak cs N lg k (k*2)))) :
  Z qab (.call 64 [.int 8,.iface 0 (.ptr 0 0),s.d,qbR n a b] (qak cs N lg k (k*2)))=some (.ret (exR v [0,0,0,0] false) (qak cs N lg k (k*2))):=by
 refine qaa (pf:=F64) rfl rfl ?_
 simp only[qak] at h
 simp[F64,qak,Su.d,Su.c,qbR,exR,Wa,qyx,h,qan,qa9,qaq]
theorem ex9 (h:Z qab (.call 87 [.int a,.int b] [])=some (.ret (.int v) [])) :
  Z qab (.call 64 [.int 9,.iface 0 (.ptr 0 0),s.d,qbR n a b] (qak cs N lg k (k*2)))=some (.ret (exR v [0,0,0,0] false) (qak cs N lg k (k*2))):=by
 refine qaa (pf:=F64) rfl rfl ?_
 simp[F64,qak,Su.d,Su.c,qbR,exR,Wa,qAn,h,qan,qa9,qaq]
theorem qAp (h:Z qab (.call 89 [.int a,.int b] [])=some (.ret (.int v) [])) :
  Z qab (.call 64 [.int 10,.iface 0 (.ptr 0 0),s.d,qbR n a b] (qak cs N lg k (k*2)))=some (.ret (exR v [0,0,0,0] false) (qak cs N lg k (k*2))):=by
 refine qaa (pf:=F64) rfl rfl ?_
 simp[F64,qak,Su.d,Su.c,qbR,exR,Wa,qyy,h,qan,qa9,qaq]
theorem qAq (h:Z qab (.call 90 [.int a,.int b] [])=some (.ret (.int v) [])) :
  Z qab (.call 64 [.int 11,.iface 0 (.ptr 0 0),s.d,qbR n a b] (qak cs N lg k (k*2)))=some (.ret (exR v [0,0,0,0] false) (qak cs N lg k (k*2))):=by
 refine qaa (pf:=F64) rfl rfl ?_
 simp[F64,qak,Su.d,Su.c,qbR,exR,Wa,qyz,h,qan,qa9,qaq]
theorem qAr (h:Z qab (.call 91 [.int a,.int b] [])=some (.ret (.int v) [])) :
  Z qab (.call 64 [.int 12,.iface 0 (.ptr 0 0),s.d,qbR n a b] (qak cs N lg k (k*2)))=some (.ret (exR v [0,0,0,0] false) (qak cs N lg k (k*2))):=by
 refine qaa (pf:=F64) rfl rfl ?_
 simp[F64,qak,Su.d,Su.c,qbR,exR,Wa,qyA,h,qan,qa9,qaq]
theorem qAs (h:Z qab (.call 92 [.int a,.int b] [])=some (.ret (.int v) [])) :
  Z qab (.call 64 [.int 14,.iface 0 (.ptr 0 0),s.d,qbR n a b] (qak cs N lg k (k*2)))=some (.ret (exR v [0,0,0,0] false) (qak cs N lg k (k*2))):=by
 refine qaa (pf:=F64) rfl rfl ?_
 simp[F64,qak,Su.d,Su.c,qbR,exR,Wa,qyC,h,qan,qa9,qaq]
theorem qAt (h:Z qab (.call 94 [.int a,.int b] [])=some (.ret (.int v) [])) :
  Z qab (.call 64 [.int 15,.iface 0 (.ptr 0 0),s.d,qbR n a b] (qak cs N lg k (k*2)))=some (.ret (exR v [0,0,0,0] false) (qak cs N lg k (k*2))):=by
 refine qaa (pf:=F64) rfl rfl ?_
 simp[F64,qak,Su.d,Su.c,qbR,exR,Wa,qyD,h,qan,qa9,qaq]
theorem qAu (h:Z qab (.call 95 [.int a,.int b] [])=some (.ret (.int v) [])) :
  Z qab (.call 64 [.int 16,.iface 0 (.ptr 0 0),s.d,qbR n a b] (qak cs N lg k (k*2)))=some (.ret (exR v [0,0,0,0] false) (qak cs N lg k (k*2))):=by
 refine qaa (pf:=F64) rfl rfl ?_
 simp[F64,qak,Su.d,Su.c,qbR,exR,Wa,qyE,h,qan,qa9,qaq]
theorem qAv (h:Z qab (.call 96 [.int a] [])=some (.ret (.int v) [])) :
  Z qab (.call 64 [.int 13,.iface 0 (.ptr 0 0),s.d,qbR n a b] (qak cs N lg k (k*2)))=some (.ret (exR v [0,0,0,0] false) (qak cs N lg k (k*2))):=by
 refine qaa (pf:=F64) rfl rfl ?_
 simp[F64,qak,Su.d,Su.c,qbR,exR,Wa,qyB,h,qan,qa9,qaq]
theorem qAw (h:Z qab (.call 97 [.int a] [])=some (.ret (.int v) [])) :
  Z qab (.call 64 [.int 17,.iface 0 (.ptr 0 0),s.d,qbR n a b] (qak cs N lg k (k*2)))=some (.ret (exR v [0,0,0,0] false) (qak cs N lg k (k*2))):=by
 refine qaa (pf:=F64) rfl rfl ?_
 simp[F64,qak,Su.d,Su.c,qbR,exR,Wa,qyF,h,qan,qa9,qaq]
theorem ex3 (h:Z qab (.call 98 [.iface 0 (.ptr 0 0),s.d,qbR n a b] (qak cs N lg k (k*2)))=some (.ret (exR v [x1,x2,x3,x4] em) (qak cs' N lg' k' (k'*2)))) :
  Z qab (.call 64 [.int 3,.iface 0 (.ptr 0 0),s.d,qbR n a b] (qak cs N lg k (k*2)))=some (.ret (exR v [x1,x2,x3,x4] em) (qak cs' N lg' k' (k'*2))):=by
 refine qaa (pf:=F64) rfl rfl ?_
 simp only[qak,Su.d,Su.c,qbR,exR,qan,List.map] at h
 simp[F64,qak,Su.d,Su.c,qbR,exR,Wa,qAi,h,qan,qa9,qaq]
theorem ex4 (h:Z qab (.call 99 [.iface 0 (.ptr 0 0),s.d,qbR n a b] (qak cs N lg k (k*2)))=some (.ret (exR v [x1,x2,x3,x4] em) (qak cs' N lg' k' (k'*2)))) :
  Z qab (.call 64 [.int 4,.iface 0 (.ptr 0 0),s.d,qbR n a b] (qak cs N lg k (k*2)))=some (.ret (exR v [x1,x2,x3,x4] em) (qak cs' N lg' k' (k'*2))):=by
 refine qaa (pf:=F64) rfl rfl ?_
 simp only[qak,Su.d,Su.c,qbR,exR,qan,List.map] at h
 simp[F64,qak,Su.d,Su.c,qbR,exR,Wa,qAj,h,qan,qa9,qaq]
theorem ex5 (h:Z qab (.call 101 [.iface 0 (.ptr 0 0),s.d,qbR n a b] (qak cs N lg k (k*2)))=some (.ret (exR v [x1,x2,x3,x4] em) (qak cs' N lg' k' (k'*2)))) :
  Z qab (.call 64 [.int 5,.iface 0 (.ptr 0 0),s.d,qbR n a b] (qak cs N lg k (k*2)))=some (.ret (exR v [x1,x2,x3,x4] em) (qak cs' N lg' k' (k'*2))):=by
 refine qaa (pf:=F64) rfl rfl ?_
 simp only[qak,Su.d,Su.c,qbR,exR,qan,List.map] at h
 simp[F64,qak,Su.d,Su.c,qbR,exR,Wa,qAk,h,qan,qa9,qaq]
theorem qAx (h:Z qab (.call 103 [.iface 0 (.ptr 0 0),s.d,qbR n a b] (qak cs N lg k (k*2)))=some (.ret (exR v [x1,x2,x3,x4] em) (qak cs' N lg' k' (k'*2)))) :
  Z qab (.call 64 [.int 18,.iface 0 (.ptr 0 0),s.d,qbR n a b] (qak cs N lg k (k*2)))=some (.ret (exR v [x1,x2,x3,x4] em) (qak cs' N lg' k' (k'*2))):=by
 refine qaa (pf:=F64) rfl rfl ?_
 simp only[qak,Su.d,Su.c,qbR,exR,qan,List.map] at h
 simp[F64,qak,Su.d,Su.c,qbR,exR,Wa,qyG,h,qan,qa9,qaq]
theorem qzP (h:Z qab (.call 104 [.iface 0 (.ptr 0 0),s.d,qbR n a b] (qak cs N lg k (k*2)))=some (.ret (exR v [x1,x2,x3,x4] em) (qak cs' N lg' k' (k'*2)))) :
  Z qab (.call 64 [.int 19,.iface 0 (.ptr 0 0),s.d,qbR n a b] (qak cs N lg k (k*2)))=some (.ret (exR v [x1,x2,x3,x4] em) (qak cs' N lg' k' (k'*2))):=by
 refine qaa (pf:=F64) rfl rfl ?_
 simp only[qak,Su.d,Su.c,qbR,exR,qan,List.map] at h
 simp[F64,qak,Su.d,Su.c,qbR,exR,Wa,qyH,h,qan,qa9,qaq]
theorem qzQ (h:Z qab (.call 105 [.iface 0 (.ptr 0 0),s.d,qbR n a b] (qak cs N lg k (k*2)))=some (.ret (exR v [x1,x2,x3,x4] em) (qak cs' N lg' k' (k'*2)))) :
  Z qab (.call 64 [.int 20,.iface 0 (.ptr 0 0),s.d,qbR n a b] (qak cs N lg k (k*2)))=some (.ret (exR v [x1,x2,x3,x4] em) (qak cs' N lg' k' (k'*2))):=by
 refine qaa (pf:=F64) rfl rfl ?_
 simp only[qak,Su.d,Su.c,qbR,exR,qan,List.map] at h
 simp[F64,qak,Su.d,Su.c,qbR,exR,Wa,qyI,h,qan,qa9,qaq]
theorem qAy (h:Z qab (.call 107 [.iface 0 (.ptr 0 0),s.d,qbR n a b] (qak cs N lg k (k*2)))=some (.ret (exR v [x1,x2,x3,x4] em) (qak cs' N lg' k' (k'*2)))) :
  Z qab (.call 64 [.int 21,.iface 0 (.ptr 0 0),s.d,qbR n a b] (qak cs N lg k (k*2)))=some (.ret (exR v [x1,x2,x3,x4] em) (qak cs' N lg' k' (k'*2))):=by
 refine qaa (pf:=F64) rfl rfl ?_
 simp only[qak,Su.d,Su.c,qbR,exR,qan,List.map] at h
 simp[F64,qak,Su.d,Su.c,qbR,exR,Wa,qyJ,h,qan,qa9,qaq]
end
theorem qvq (s:Su) (cs:List Int) (N:Nat) (lg:List D) (k:Nat) (op:Nat) (n a b:Int) (hs:s.ok) (hN:cs.length=N) (h:N=s.n) (hl:lg.length=k*2) (hk:k<2^29) (h1:1<=op) (h2:op<=21)
  (hn:operN op=0\/(0<=n/\n<operN op)) : ∃ lg' k',lg'.length=k'*2/\k'<=k+2 /\
  Z qab (.call 64 [.int op,.iface 0 (.ptr 0 0),s.d,qbR n a b] (qak cs N lg k (k*2)))=some (.ret (exR (exV s cs op n a b) (exE cs op a b) (exB cs op)) (qak (exC s cs op n a b) N lg' k' (k'*2))):=by
 have h48:48<=N:=by rw[h]; unfold Su.n; omega
 have hk':k<2^30:=by omega
 have e0 : ∀ j,j≠20->exB cs j=false:=fun j hj=>by simp[exB,hj]
 have e1 : ∀ j,j≠20->exE cs j a b=[0,0,0,0]:=fun j hj=>by simp[exE,e0 j hj]
 match op,h1,h2 with
 |1,_,_=>
  rw[e0 1 (by decide),e1 1 (by decide)]
  exact⟨lg,k,hl,by omega,qAo ld1⟩
 |2,_,_=>
  rw[e0 2 (by decide),e1 2 (by decide)]
  have hn':0<=n/\n<16:=by simpa [operN] using hn
  exact⟨lg,k,hl,by omega,ex2 (ld2 hN h48 hn'.1 hn'.2)⟩
 |3,_,_=>
  rw[e0 3 (by decide),e1 3 (by decide)]
  have hn':0<=n/\n<16:=by simpa [operN] using hn
  exact⟨_,k+1,by simp[ent,hl]; omega,by omega,ex3 (ot1 hN h48 hl hk' hn'.1 hn'.2)⟩
 |4,_,_=>
  rw[e0 4 (by decide),e1 4 (by decide)]
  have hn':0<=n/\n<8:=by simpa [operN] using hn
  exact⟨lg,k,hl,by omega,ex4 (ot2 hs hN h hn'.1 hn'.2)⟩
 |5,_,_=>
  rw[e0 5 (by decide),e1 5 (by decide)]
  have hn':0<=n/\n<8:=by simpa [operN] using hn
  by_cases h3:bodyI s a<0
  ·have hc:exC s cs 5 n a b=cs:=by simp[exC,h3]
   rw[hc]
   exact⟨lg,k,hl,by omega,ex5 (qAP hs h3)⟩
  ·have hc:exC s cs 5 n a b=qaK cs (bodyI s a+n) (qqb n b):=by simp[exC,h3]
   rw[hc]
   exact⟨_,k+1,by simp[ent,hl]; omega,by omega,ex5 (ot3 hs hN h hl hk' hn'.1 hn'.2 h3)⟩
 |6,_,_=>
  rw[e0 6 (by decide),e1 6 (by decide)]
  exact⟨lg,k,hl,by omega,ex6 (ld3 hN h48)⟩
 |7,_,_=>
  rw[e0 7 (by decide),e1 7 (by decide)]
  exact⟨lg,k,hl,by omega,ex7 (ld4 hN h48)⟩
 |8,_,_=>
  rw[e0 8 (by decide),e1 8 (by decide)]
  exact⟨lg,k,hl,by omega,ex8 (ld5 hN h48)⟩
 |9,_,_=>
  rw[e0 9 (by decide),e1 9 (by decide)]
  exact⟨lg,k,hl,by omega,ex9 (qlR a b (87,9) (by simp))⟩
 |10,_,_=>
  rw[e0 10 (by decide),e1 10 (by decide)]
  exact⟨lg,k,hl,by omega,qAp (qlR a b (89,10) (by simp))⟩
 |11,_,_=>
  rw[e0 11 (by decide),e1 11 (by decide)]
  exact⟨lg,k,hl,by omega,qAq (qlR a b (90,11) (by simp))⟩
 |12,_,_=>
  rw[e0 12 (by decide),e1 12 (by decide)]
  exact⟨lg,k,hl,by omega,qAr (qlR a b (91,12) (by simp))⟩
 |13,_,_=>
  rw[e0 13 (by decide),e1 13 (by decide)]
  exact⟨lg,k,hl,by omega,qAv (qzW a (96,13) (by simp))⟩
 |14,_,_=>
  rw[e0 14 (by decide),e1 14 (by decide)]
  exact⟨lg,k,hl,by omega,qAs (qlR a b (92,14) (by simp))⟩
 |15,_,_=>
  rw[e0 15 (by decide),e1 15 (by decide)]
  exact⟨lg,k,hl,by omega,qAt (qlR a b (94,15) (by simp))⟩
 |16,_,_=>
  rw[e0 16 (by decide),e1 16 (by decide)]
  exact⟨lg,k,hl,by omega,qAu (qlR a b (95,16) (by simp))⟩
 |17,_,_=>
  rw[e0 17 (by decide),e1 17 (by decide)]
  exact⟨lg,k,hl,by omega,qAw (qzW a (97,17) (by simp))⟩
 |18,_,_=>
  rw[e0 18 (by decide),e1 18 (by decide)]
  exact⟨_,k+1,by simp[ent,hl]; omega,by omega,qAx (ot4 hN h48 hl hk')⟩
 |19,_,_=>
  rw[e0 19 (by decide),e1 19 (by decide)]
  by_cases h3:a=0
  ·have hc:exC s cs 19 n a b=qaK cs 6 n:=by simp[exC,h3]
   rw[hc]
   exact⟨_,k+1,by simp[ent,hl]; omega,by omega,qzP (ot5 hN h48 hl hk' h3)⟩
  ·have hc:exC s cs 19 n a b=cs:=by simp[exC,h3]
   rw[hc]
   exact⟨lg,k,hl,by omega,qzP (qAO h3)⟩
 |20,_,_=>
  by_cases h3:40<=getI cs 11
  ·have hc:exC s cs 20 n a b=cs:=by simp[exC,h3]
   have hb:exB cs 20=false:=by simp[exB]; omega
   rw[hc,exE,hb]
   exact⟨lg,k,hl,by omega,qzQ (ot6 (qw1 hN h48 h3))⟩
  ·have hc:exC s cs 20 n a b=qaK (qaK cs 12 (qvz cs a b)) 11 (wr (getI cs 11+1)):=by simp[exC,h3]
   have hb:exB cs 20=true:=by simp[exB]; omega
   obtain⟨lg',hl',he⟩:=qw2 (a:=a) (b:=b) hN h48 hl hk h3
   rw[hc,exE,hb]
   exact⟨lg',k+2,hl',by omega,qzQ (ot6 he)⟩
 |21,_,_=>
  rw[e0 21 (by decide),e1 21 (by decide)]
  exact⟨lg,k,hl,by omega,qAy ot7⟩
 |n+22,_,h=>exact absurd h (by omega)
end
section
open F
def qcu(c:List (Nat × Int)):List D:=c.flatMap fun x=>[.lit (.int .i64 x.1),.lit (.int .i64 x.2)]
def codeDV(f:Bool):List (Nat × Int)->D
 |[] => .lit (.slice none 0 0)
 |x::c => .sl (qcu (x::c)) (x::c).length f
@[simp] theorem qw9(σ : S)(f:Bool)(c:List (Nat × Int)):V.len σ .sl (.dat (codeDV f c))=some c.length:=by
 cases c<;>simp[codeDV,V.len]
@[simp] theorem qxa(f:Bool)(c:List (Nat × Int)):V.one (.dat (codeDV f c))=true:=by cases c<;>rfl
@[simp] theorem quD(f:Bool)(c:List (Nat × Int)):V.cells (.dat (codeDV f c))=[.dat (codeDV f c)]:=by cases c<;>rfl
theorem qmV(f:Bool)(c:List (Nat × Int))(i:Int)(h0:0<=i)(h1:i<c.length):qag 2 (.dat (codeDV f c)) i=some (.dat (.imm (qcu c) (i.toNat*2))):=by
 cases c with
 |nil=>simp at h1; omega
 |cons x c=>simp only[Wd] at h1; simp[codeDV,qag,h0]; omega
theorem qnR(c:List (Nat × Int))(i:Nat):(qcu c).drop (i*2)=qcu (c.drop i):=by
 induction i generalizing c with
 |zero=>simp
 |succ i ih=>
  cases c with
  |nil=>simp[qcu]
  |cons x c=>
   rw[show (i+1)*2=i*2+2 by omega]
   simp only[qcu,List.flatMap_cons,Wh,Wg,YB] at ih ⊢
   exact ih c
theorem qi3(c:List (Nat × Int))(i:Nat)(h:i<c.length):qaj (qcu c) (i*2) 2=some [.lit (.int .i64 c[i].1),.lit (.int .i64 c[i].2)]:=by
 unfold qaj
 rw[qnR,WC h]
 have e:qcu (c[i]::c.drop (i+1)) = .lit (.int .i64 c[i].1) :: .lit (.int .i64 c[i].2)::qcu (c.drop (i+1)):=rfl
 rw[e]
 rfl
def qbZ(f:Bool)(c:List (Nat × Int))(e0 e1 e2:Int):V := .dat (.agg [codeDV f c,.lit (.int .i64 e0),.lit (.int .i64 e1),.lit (.int .i64 e2)])
section
variable{s:Su}{cs cs1 cs2 cs3 cs4 cs5:List Int}{N:Nat}{lg lg1 lg2 lg3 lg4 lg5:List D}{k k1 k2 k3 k4 k5 t t1 t2 t3 t4 t5 op:Nat}{c:List (Nat × Int)}{f:Bool}{e0 e1 e2 n a b v fuel pc sp w8 w6 w7 bt x1 x2 x3 x4:Int}{em:Bool}
set_option maxHeartbeats 8000000 in
set_option maxHeartbeats 8000000 in
set_option maxHeartbeats 8000000 in
set_option maxHeartbeats 8000000 in
set_option maxHeartbeats 8000000 in
set_option maxHeartbeats 8000000 in
set_option maxHeartbeats 8000000 in
theorem qrA (g6:Z qab (.call 51 [.ptr 0 0,.int 6] (qak cs N lg k t))=some (.ret (.int pc) (qak cs N lg k t)))
  (g7:Z qab (.call 51 [.ptr 0 0,.int 7] (qak cs N lg k t))=some (.ret (.int sp) (qak cs N lg k t)))
  (g8:Z qab (.call 51 [.ptr 0 0,.int 8] (qak cs N lg k t))=some (.ret (.int fuel) (qak cs N lg k t)))
  (hf : ¬ fuel<1) (hp0 : ¬ pc<0) (hp1 : ¬ (c.length:Int)<=pc)
  (hc:qag 2 (.dat (codeDV f c)) pc=some (.dat (.imm (qcu c) (pc.toNat*2)))) (hc2:qaj (qcu c) (pc.toNat*2) 2=some [.lit (.int .i64 op),.lit (.int .i64 n)])
  (hx:Z qab (.call 63 [.dat (.agg [.lit (.int .i64 op),.lit (.int .i64 n)]),.int sp] [])=some (.ret (.bool true) [])) (hop:(op:Int)<22)
  (hP:qaj G_arenanet_vm_effects (op*3) 1=some [.lit (.int .i64 0)]) (hQ:qaj G_arenanet_vm_effects (op*3+1) 1=some [.lit (.int .i64 1)])
  (wa:wr (16+sp)=16+sp) (wb:16+sp=bt) (wa2:wr bt=bt) (wf:wr (fuel-1)=w8) (wp:wr (pc+1)=w6)
  (s8:Z qab (.call 114 [.ptr 0 0,.int 8,.int w8] (qak cs N lg k t))=some (.ret (.tup []) (qak cs1 N lg1 k1 t1)))
  (s6:Z qab (.call 114 [.ptr 0 0,.int 6,.int w6] (qak cs1 N lg1 k1 t1))=some (.ret (.tup []) (qak cs2 N lg2 k2 t2)))
  (wd:wr sp=sp) (we:wr (sp+1)=w7)
  (s7:Z qab (.call 114 [.ptr 0 0,.int 7,.int w7] (qak cs2 N lg2 k2 t2))=some (.ret (.tup []) (qak cs3 N lg3 k3 t3)))
  (hex:Z qab (.call 64 [.int op,.iface 0 (.ptr 0 0),s.d,qbR n 0 0] (qak cs3 N lg3 k3 t3))=some (.ret (exR v [x1,x2,x3,x4] em) (qak cs4 N lg4 k4 t4)))
  (sv:Z qab (.call 114 [.ptr 0 0,.int bt,.int v] (qak cs4 N lg4 k4 t4))=some (.ret (.tup []) (qak cs5 N lg5 k5 t5))) :
  Z qab (.call 52 [.iface 0 (.ptr 0 0),s.d,qbZ f c e0 e1 e2] (qak cs N lg k t))=some (.ret (.tup [.bool (decide ((op:Int)=21)),.dat (.agg (qan [x1,x2,x3,x4])),.bool em]) (qak cs5 N lg5 k5 t5)):=by
 refine qaa (pf:=F52) rfl rfl ?_
 have hP':=hP; have hQ':=hQ
 simp only[qc2,qak,Su.d,Su.c,qbR,exR,qan,List.map] at g6 g7 g8 s8 s6 hex s7 sv
 simp (maxSteps:=5000000) [F52,qc2,qak,Su.d,Su.c,qbZ,qbR,exR,Wa,qan,qa9,qaq,g6,g7,g8,hf,hp0,hp1,hc,hc2,hx,hop,hP',hQ',wa,wb,wf,wp,s8,s6,hex,wa2,wd,we,s7,sv]
set_option maxHeartbeats 8000000 in
theorem qrB (g6:Z qab (.call 51 [.ptr 0 0,.int 6] (qak cs N lg k t))=some (.ret (.int pc) (qak cs N lg k t)))
  (g7:Z qab (.call 51 [.ptr 0 0,.int 7] (qak cs N lg k t))=some (.ret (.int sp) (qak cs N lg k t)))
  (g8:Z qab (.call 51 [.ptr 0 0,.int 8] (qak cs N lg k t))=some (.ret (.int fuel) (qak cs N lg k t)))
  (hf : ¬ fuel<1) (hp0 : ¬ pc<0) (hp1 : ¬ (c.length:Int)<=pc)
  (hc:qag 2 (.dat (codeDV f c)) pc=some (.dat (.imm (qcu c) (pc.toNat*2)))) (hc2:qaj (qcu c) (pc.toNat*2) 2=some [.lit (.int .i64 op),.lit (.int .i64 n)])
  (hx:Z qab (.call 63 [.dat (.agg [.lit (.int .i64 op),.lit (.int .i64 n)]),.int sp] [])=some (.ret (.bool true) [])) (hop:(op:Int)<22)
  (hP:qaj G_arenanet_vm_effects (op*3) 1=some [.lit (.int .i64 1)]) (hQ:qaj G_arenanet_vm_effects (op*3+1) 1=some [.lit (.int .i64 0)])
  (wa:wr (16+sp)=16+sp) (wb:wr (16+sp-1)=bt) (wf:wr (fuel-1)=w8) (wp:wr (pc+1)=w6)
  (ga:Z qab (.call 51 [.ptr 0 0,.int bt] (qak cs N lg k t))=some (.ret (.int a) (qak cs N lg k t)))
  (s8:Z qab (.call 114 [.ptr 0 0,.int 8,.int w8] (qak cs N lg k t))=some (.ret (.tup []) (qak cs1 N lg1 k1 t1)))
  (s6:Z qab (.call 114 [.ptr 0 0,.int 6,.int w6] (qak cs1 N lg1 k1 t1))=some (.ret (.tup []) (qak cs2 N lg2 k2 t2)))
  (wd:wr w7=w7) (we:sp-1=w7)
  (s7:Z qab (.call 114 [.ptr 0 0,.int 7,.int w7] (qak cs2 N lg2 k2 t2))=some (.ret (.tup []) (qak cs3 N lg3 k3 t3)))
  (hex:Z qab (.call 64 [.int op,.iface 0 (.ptr 0 0),s.d,qbR n a 0] (qak cs3 N lg3 k3 t3))=some (.ret (exR v [x1,x2,x3,x4] em) (qak cs4 N lg4 k4 t4))) :
  Z qab (.call 52 [.iface 0 (.ptr 0 0),s.d,qbZ f c e0 e1 e2] (qak cs N lg k t))=some (.ret (.tup [.bool (decide ((op:Int)=21)),.dat (.agg (qan [x1,x2,x3,x4])),.bool em]) (qak cs4 N lg4 k4 t4)):=by
 refine qaa (pf:=F52) rfl rfl ?_
 have hP':=hP; have hQ':=hQ
 simp only[qc2,qak,Su.d,Su.c,qbR,exR,qan,List.map] at g6 g7 g8 s8 s6 hex ga s7
 simp (maxSteps:=5000000) [F52,qc2,qak,Su.d,Su.c,qbZ,qbR,exR,Wa,qan,qa9,qaq,g6,g7,g8,hf,hp0,hp1,hc,hc2,hx,hop,hP',hQ',wa,wb,wf,wp,s8,s6,hex,ga,wd,we,s7]
set_option maxHeartbeats 8000000 in
theorem qrC (g6:Z qab (.call 51 [.ptr 0 0,.int 6] (qak cs N lg k t))=some (.ret (.int pc) (qak cs N lg k t)))
  (g7:Z qab (.call 51 [.ptr 0 0,.int 7] (qak cs N lg k t))=some (.ret (.int sp) (qak cs N lg k t)))
  (g8:Z qab (.call 51 [.ptr 0 0,.int 8] (qak cs N lg k t))=some (.ret (.int fuel) (qak cs N lg k t)))
  (hf : ¬ fuel<1) (hp0 : ¬ pc<0) (hp1 : ¬ (c.length:Int)<=pc)
  (hc:qag 2 (.dat (codeDV f c)) pc=some (.dat (.imm (qcu c) (pc.toNat*2)))) (hc2:qaj (qcu c) (pc.toNat*2) 2=some [.lit (.int .i64 op),.lit (.int .i64 n)])
  (hx:Z qab (.call 63 [.dat (.agg [.lit (.int .i64 op),.lit (.int .i64 n)]),.int sp] [])=some (.ret (.bool true) [])) (hop:(op:Int)<22)
  (hP:qaj G_arenanet_vm_effects (op*3) 1=some [.lit (.int .i64 1)]) (hQ:qaj G_arenanet_vm_effects (op*3+1) 1=some [.lit (.int .i64 1)])
  (wa:wr (16+sp)=16+sp) (wb:wr (16+sp-1)=bt) (wf:wr (fuel-1)=w8) (wp:wr (pc+1)=w6)
  (ga:Z qab (.call 51 [.ptr 0 0,.int bt] (qak cs N lg k t))=some (.ret (.int a) (qak cs N lg k t)))
  (s8:Z qab (.call 114 [.ptr 0 0,.int 8,.int w8] (qak cs N lg k t))=some (.ret (.tup []) (qak cs1 N lg1 k1 t1)))
  (s6:Z qab (.call 114 [.ptr 0 0,.int 6,.int w6] (qak cs1 N lg1 k1 t1))=some (.ret (.tup []) (qak cs2 N lg2 k2 t2)))
  (hex:Z qab (.call 64 [.int op,.iface 0 (.ptr 0 0),s.d,qbR n a 0] (qak cs2 N lg2 k2 t2))=some (.ret (exR v [x1,x2,x3,x4] em) (qak cs4 N lg4 k4 t4)))
  (sv:Z qab (.call 114 [.ptr 0 0,.int bt,.int v] (qak cs4 N lg4 k4 t4))=some (.ret (.tup []) (qak cs5 N lg5 k5 t5))) :
  Z qab (.call 52 [.iface 0 (.ptr 0 0),s.d,qbZ f c e0 e1 e2] (qak cs N lg k t))=some (.ret (.tup [.bool (decide ((op:Int)=21)),.dat (.agg (qan [x1,x2,x3,x4])),.bool em]) (qak cs5 N lg5 k5 t5)):=by
 refine qaa (pf:=F52) rfl rfl ?_
 have hP':=hP; have hQ':=hQ
 simp only[qc2,qak,Su.d,Su.c,qbR,exR,qan,List.map] at g6 g7 g8 s8 s6 hex ga sv
 simp (maxSteps:=5000000) [F52,qc2,qak,Su.d,Su.c,qbZ,qbR,exR,Wa,qan,qa9,qaq,g6,g7,g8,hf,hp0,hp1,hc,hc2,hx,hop,hP',hQ',wa,wb,wf,wp,s8,s6,hex,ga,sv]
set_option maxHeartbeats 8000000 in
theorem qrD (g6:Z qab (.call 51 [.ptr 0 0,.int 6] (qak cs N lg k t))=some (.ret (.int pc) (qak cs N lg k t)))
  (g7:Z qab (.call 51 [.ptr 0 0,.int 7] (qak cs N lg k t))=some (.ret (.int sp) (qak cs N lg k t)))
  (g8:Z qab (.call 51 [.ptr 0 0,.int 8] (qak cs N lg k t))=some (.ret (.int fuel) (qak cs N lg k t)))
  (hf : ¬ fuel<1) (hp0 : ¬ pc<0) (hp1 : ¬ (c.length:Int)<=pc)
  (hc:qag 2 (.dat (codeDV f c)) pc=some (.dat (.imm (qcu c) (pc.toNat*2)))) (hc2:qaj (qcu c) (pc.toNat*2) 2=some [.lit (.int .i64 op),.lit (.int .i64 n)])
  (hx:Z qab (.call 63 [.dat (.agg [.lit (.int .i64 op),.lit (.int .i64 n)]),.int sp] [])=some (.ret (.bool true) [])) (hop:(op:Int)<22)
  (hP:qaj G_arenanet_vm_effects (op*3) 1=some [.lit (.int .i64 2)]) (hQ:qaj G_arenanet_vm_effects (op*3+1) 1=some [.lit (.int .i64 0)])
  (wa:wr (16+sp)=16+sp) (wb:wr (16+sp-2)=bt) (wf:wr (fuel-1)=w8) (wp:wr (pc+1)=w6)
  (ga:Z qab (.call 51 [.ptr 0 0,.int bt] (qak cs N lg k t))=some (.ret (.int a) (qak cs N lg k t)))
  (wc:wr (bt+1)=bt+1) (gb:Z qab (.call 51 [.ptr 0 0,.int (bt+1)] (qak cs N lg k t))=some (.ret (.int b) (qak cs N lg k t)))
  (s8:Z qab (.call 114 [.ptr 0 0,.int 8,.int w8] (qak cs N lg k t))=some (.ret (.tup []) (qak cs1 N lg1 k1 t1)))
  (s6:Z qab (.call 114 [.ptr 0 0,.int 6,.int w6] (qak cs1 N lg1 k1 t1))=some (.ret (.tup []) (qak cs2 N lg2 k2 t2)))
  (wd:wr w7=w7) (we:sp-2=w7)
  (s7:Z qab (.call 114 [.ptr 0 0,.int 7,.int w7] (qak cs2 N lg2 k2 t2))=some (.ret (.tup []) (qak cs3 N lg3 k3 t3)))
  (hex:Z qab (.call 64 [.int op,.iface 0 (.ptr 0 0),s.d,qbR n a b] (qak cs3 N lg3 k3 t3))=some (.ret (exR v [x1,x2,x3,x4] em) (qak cs4 N lg4 k4 t4))) :
  Z qab (.call 52 [.iface 0 (.ptr 0 0),s.d,qbZ f c e0 e1 e2] (qak cs N lg k t))=some (.ret (.tup [.bool (decide ((op:Int)=21)),.dat (.agg (qan [x1,x2,x3,x4])),.bool em]) (qak cs4 N lg4 k4 t4)):=by
 refine qaa (pf:=F52) rfl rfl ?_
 have hP':=hP; have hQ':=hQ
 simp only[qc2,qak,Su.d,Su.c,qbR,exR,qan,List.map] at g6 g7 g8 s8 s6 hex ga gb s7
 simp (maxSteps:=5000000) [F52,qc2,qak,Su.d,Su.c,qbZ,qbR,exR,Wa,qan,qa9,qaq,g6,g7,g8,hf,hp0,hp1,hc,hc2,hx,hop,hP',hQ',wa,wb,wf,wp,s8,s6,hex,ga,wc,gb,wd,we,s7]
set_option maxHeartbeats 8000000 in
theorem qrE (g6:Z qab (.call 51 [.ptr 0 0,.int 6] (qak cs N lg k t))=some (.ret (.int pc) (qak cs N lg k t)))
  (g7:Z qab (.call 51 [.ptr 0 0,.int 7] (qak cs N lg k t))=some (.ret (.int sp) (qak cs N lg k t)))
  (g8:Z qab (.call 51 [.ptr 0 0,.int 8] (qak cs N lg k t))=some (.ret (.int fuel) (qak cs N lg k t)))
  (hf : ¬ fuel<1) (hp0 : ¬ pc<0) (hp1 : ¬ (c.length:Int)<=pc)
  (hc:qag 2 (.dat (codeDV f c)) pc=some (.dat (.imm (qcu c) (pc.toNat*2)))) (hc2:qaj (qcu c) (pc.toNat*2) 2=some [.lit (.int .i64 op),.lit (.int .i64 n)])
  (hx:Z qab (.call 63 [.dat (.agg [.lit (.int .i64 op),.lit (.int .i64 n)]),.int sp] [])=some (.ret (.bool true) [])) (hop:(op:Int)<22)
  (hP:qaj G_arenanet_vm_effects (op*3) 1=some [.lit (.int .i64 2)]) (hQ:qaj G_arenanet_vm_effects (op*3+1) 1=some [.lit (.int .i64 1)])
  (wa:wr (16+sp)=16+sp) (wb:wr (16+sp-2)=bt) (wf:wr (fuel-1)=w8) (wp:wr (pc+1)=w6)
  (ga:Z qab (.call 51 [.ptr 0 0,.int bt] (qak cs N lg k t))=some (.ret (.int a) (qak cs N lg k t)))
  (wc:wr (bt+1)=bt+1) (gb:Z qab (.call 51 [.ptr 0 0,.int (bt+1)] (qak cs N lg k t))=some (.ret (.int b) (qak cs N lg k t)))
  (s8:Z qab (.call 114 [.ptr 0 0,.int 8,.int w8] (qak cs N lg k t))=some (.ret (.tup []) (qak cs1 N lg1 k1 t1)))
  (s6:Z qab (.call 114 [.ptr 0 0,.int 6,.int w6] (qak cs1 N lg1 k1 t1))=some (.ret (.tup []) (qak cs2 N lg2 k2 t2)))
  (wd:wr (sp-2)=sp-2) (we:wr (sp-2+1)=w7)
  (s7:Z qab (.call 114 [.ptr 0 0,.int 7,.int w7] (qak cs2 N lg2 k2 t2))=some (.ret (.tup []) (qak cs3 N lg3 k3 t3)))
  (hex:Z qab (.call 64 [.int op,.iface 0 (.ptr 0 0),s.d,qbR n a b] (qak cs3 N lg3 k3 t3))=some (.ret (exR v [x1,x2,x3,x4] em) (qak cs4 N lg4 k4 t4)))
  (sv:Z qab (.call 114 [.ptr 0 0,.int bt,.int v] (qak cs4 N lg4 k4 t4))=some (.ret (.tup []) (qak cs5 N lg5 k5 t5))) :
  Z qab (.call 52 [.iface 0 (.ptr 0 0),s.d,qbZ f c e0 e1 e2] (qak cs N lg k t))=some (.ret (.tup [.bool (decide ((op:Int)=21)),.dat (.agg (qan [x1,x2,x3,x4])),.bool em]) (qak cs5 N lg5 k5 t5)):=by
 refine qaa (pf:=F52) rfl rfl ?_
 have hP':=hP; have hQ':=hQ
 simp only[qc2,qak,Su.d,Su.c,qbR,exR,qan,List.map] at g6 g7 g8 s8 s6 hex ga gb s7 sv
 simp (maxSteps:=5000000) [F52,qc2,qak,Su.d,Su.c,qbZ,qbR,exR,Wa,qan,qa9,qaq,g6,g7,g8,hf,hp0,hp1,hc,hc2,hx,hop,hP',hQ',wa,wb,wf,wp,s8,s6,hex,ga,wc,gb,wd,we,s7,sv]
set_option maxHeartbeats 8000000 in
theorem qrF (g6:Z qab (.call 51 [.ptr 0 0,.int 6] (qak cs N lg k t))=some (.ret (.int pc) (qak cs N lg k t)))
  (g7:Z qab (.call 51 [.ptr 0 0,.int 7] (qak cs N lg k t))=some (.ret (.int sp) (qak cs N lg k t)))
  (g8:Z qab (.call 51 [.ptr 0 0,.int 8] (qak cs N lg k t))=some (.ret (.int fuel) (qak cs N lg k t)))
  (hf : ¬ fuel<1) (hp0 : ¬ pc<0) (hp1 : ¬ (c.length:Int)<=pc)
  (hc:qag 2 (.dat (codeDV f c)) pc=some (.dat (.imm (qcu c) (pc.toNat*2)))) (hc2:qaj (qcu c) (pc.toNat*2) 2=some [.lit (.int .i64 op),.lit (.int .i64 n)])
  (hx:Z qab (.call 63 [.dat (.agg [.lit (.int .i64 op),.lit (.int .i64 n)]),.int sp] [])=some (.ret (.bool true) [])) (hop:(op:Int)<22)
  (hP:qaj G_arenanet_vm_effects (op*3) 1=some [.lit (.int .i64 0)]) (hQ:qaj G_arenanet_vm_effects (op*3+1) 1=some [.lit (.int .i64 0)])
  (wa:wr (16+sp)=16+sp) (wb:16+sp=bt) (wa2:wr bt=bt) (wf:wr (fuel-1)=w8) (wp:wr (pc+1)=w6)
  (s8:Z qab (.call 114 [.ptr 0 0,.int 8,.int w8] (qak cs N lg k t))=some (.ret (.tup []) (qak cs1 N lg1 k1 t1)))
  (s6:Z qab (.call 114 [.ptr 0 0,.int 6,.int w6] (qak cs1 N lg1 k1 t1))=some (.ret (.tup []) (qak cs2 N lg2 k2 t2)))
  (hex:Z qab (.call 64 [.int op,.iface 0 (.ptr 0 0),s.d,qbR n 0 0] (qak cs2 N lg2 k2 t2))=some (.ret (exR v [x1,x2,x3,x4] em) (qak cs4 N lg4 k4 t4))) :
  Z qab (.call 52 [.iface 0 (.ptr 0 0),s.d,qbZ f c e0 e1 e2] (qak cs N lg k t))=some (.ret (.tup [.bool (decide ((op:Int)=21)),.dat (.agg (qan [x1,x2,x3,x4])),.bool em]) (qak cs4 N lg4 k4 t4)):=by
 refine qaa (pf:=F52) rfl rfl ?_
 have hP':=hP; have hQ':=hQ
 simp only[qc2,qak,Su.d,Su.c,qbR,exR,qan,List.map] at g6 g7 g8 s8 s6 hex
 simp (maxSteps:=5000000) [F52,qc2,qak,Su.d,Su.c,qbZ,qbR,exR,Wa,qan,qa9,qaq,g6,g7,g8,hf,hp0,hp1,hc,hc2,hx,hop,hP',hQ',wa,wb,wf,wp,s8,s6,hex,wa2]
end
end
section
open F
def qiM(e0 e1 e2 h:Int):Int:=if h=0 then e0 else if h=1 then e1 else e2
def qhL(cs:List Int)(e fuel self other:Int):List Int:=qaK (qaK (qaK (qaK (qaK cs 6 e) 7 0) 8 fuel) 9 self) 10 other
@[simp] theorem qjD(cs:List Int)(e fuel self other:Int):(qhL cs e fuel self other).length=cs.length:=by simp[qhL]
section
variable{s:Su}{cs cs1 cs2 cs3 cs4 cs5:List Int}{N:Nat}{lg lg1 lg2 lg3 lg4 lg5:List D}{k k1 k2 k3 k4 k5 t t1 t2 t3 t4 t5 op:Nat}{c:List (Nat × Int)}{f:Bool}{e0 e1 e2 n h e self other fuel pc sp:Int}
theorem qqI (he : ¬ e<0) (hE:e0=e)
  (s6:Z qab (.call 114 [.ptr 0 0,.int 6,.int e] (qc2 cs N))=some (.ret (.tup []) (qak cs1 N lg1 k1 t1)))
  (s7:Z qab (.call 114 [.ptr 0 0,.int 7,.int 0] (qak cs1 N lg1 k1 t1))=some (.ret (.tup []) (qak cs2 N lg2 k2 t2)))
  (s8:Z qab (.call 114 [.ptr 0 0,.int 8,.int fuel] (qak cs2 N lg2 k2 t2))=some (.ret (.tup []) (qak cs3 N lg3 k3 t3)))
  (s9:Z qab (.call 114 [.ptr 0 0,.int 9,.int self] (qak cs3 N lg3 k3 t3))=some (.ret (.tup []) (qak cs4 N lg4 k4 t4)))
  (s10:Z qab (.call 114 [.ptr 0 0,.int 10,.int other] (qak cs4 N lg4 k4 t4))=some (.ret (.tup []) (qak cs5 N lg5 k5 t5))) :
  Z qab (.call 49 [.iface 0 (.ptr 0 0),qbZ f c e0 e1 e2,.int 0,.int self,.int other,.int fuel] (qc2 cs N))=some (.ret (.bool true) (qak cs5 N lg5 k5 t5)):=by
 refine qaa (pf:=F49) rfl rfl ?_
 subst hE
 simp only[qc2,qak] at s6 s7 s8 s9 s10
 simp[F49,qc2,qak,qbZ,Wa,qa9,qaq,he,s6,s7,s8,s9,s10]
theorem qqJ (he : ¬ e<0) (hE:e1=e)
  (s6:Z qab (.call 114 [.ptr 0 0,.int 6,.int e] (qc2 cs N))=some (.ret (.tup []) (qak cs1 N lg1 k1 t1)))
  (s7:Z qab (.call 114 [.ptr 0 0,.int 7,.int 0] (qak cs1 N lg1 k1 t1))=some (.ret (.tup []) (qak cs2 N lg2 k2 t2)))
  (s8:Z qab (.call 114 [.ptr 0 0,.int 8,.int fuel] (qak cs2 N lg2 k2 t2))=some (.ret (.tup []) (qak cs3 N lg3 k3 t3)))
  (s9:Z qab (.call 114 [.ptr 0 0,.int 9,.int self] (qak cs3 N lg3 k3 t3))=some (.ret (.tup []) (qak cs4 N lg4 k4 t4)))
  (s10:Z qab (.call 114 [.ptr 0 0,.int 10,.int other] (qak cs4 N lg4 k4 t4))=some (.ret (.tup []) (qak cs5 N lg5 k5 t5))) :
  Z qab (.call 49 [.iface 0 (.ptr 0 0),qbZ f c e0 e1 e2,.int 1,.int self,.int other,.int fuel] (qc2 cs N))=some (.ret (.bool true) (qak cs5 N lg5 k5 t5)):=by
 refine qaa (pf:=F49) rfl rfl ?_
 subst hE
 simp only[qc2,qak] at s6 s7 s8 s9 s10
 simp[F49,qc2,qak,qbZ,Wa,qa9,qaq,he,s6,s7,s8,s9,s10]
theorem qqK (he : ¬ e<0) (hE:e2=e)
  (s6:Z qab (.call 114 [.ptr 0 0,.int 6,.int e] (qc2 cs N))=some (.ret (.tup []) (qak cs1 N lg1 k1 t1)))
  (s7:Z qab (.call 114 [.ptr 0 0,.int 7,.int 0] (qak cs1 N lg1 k1 t1))=some (.ret (.tup []) (qak cs2 N lg2 k2 t2)))
  (s8:Z qab (.call 114 [.ptr 0 0,.int 8,.int fuel] (qak cs2 N lg2 k2 t2))=some (.ret (.tup []) (qak cs3 N lg3 k3 t3)))
  (s9:Z qab (.call 114 [.ptr 0 0,.int 9,.int self] (qak cs3 N lg3 k3 t3))=some (.ret (.tup []) (qak cs4 N lg4 k4 t4)))
  (s10:Z qab (.call 114 [.ptr 0 0,.int 10,.int other] (qak cs4 N lg4 k4 t4))=some (.ret (.tup []) (qak cs5 N lg5 k5 t5))) :
  Z qab (.call 49 [.iface 0 (.ptr 0 0),qbZ f c e0 e1 e2,.int 2,.int self,.int other,.int fuel] (qc2 cs N))=some (.ret (.bool true) (qak cs5 N lg5 k5 t5)):=by
 refine qaa (pf:=F49) rfl rfl ?_
 subst hE
 simp only[qc2,qak] at s6 s7 s8 s9 s10
 simp[F49,qc2,qak,qbZ,Wa,qa9,qaq,he,s6,s7,s8,s9,s10]
theorem qtw (g6:Z qab (.call 51 [.ptr 0 0,.int 6] (qak cs N lg k t))=some (.ret (.int pc) (qak cs N lg k t)))
  (g7:Z qab (.call 51 [.ptr 0 0,.int 7] (qak cs N lg k t))=some (.ret (.int sp) (qak cs N lg k t)))
  (g8:Z qab (.call 51 [.ptr 0 0,.int 8] (qak cs N lg k t))=some (.ret (.int fuel) (qak cs N lg k t)))
  (hb:fuel<1\/pc<0\/(c.length:Int)<=pc) :
  Z qab (.call 52 [.iface 0 (.ptr 0 0),s.d,qbZ f c e0 e1 e2] (qak cs N lg k t))=some (.ret (.tup [.bool true,.dat (.agg (qan [0,0,0,0])),.bool false]) (qak cs N lg k t)):=by
 refine qaa (pf:=F52) rfl rfl ?_
 simp only[qc2,qak] at g6 g7 g8
 by_cases h0:fuel<1
 ·simp[F52,qc2,qak,Su.d,Su.c,qbZ,Wa,qan,g6,g7,g8,h0]
 ·by_cases h1:pc<0
  ·simp[F52,qc2,qak,Su.d,Su.c,qbZ,Wa,qan,g6,g7,g8,h0,h1]
  ·have h2:(c.length:Int)<=pc:=by omega
   simp[F52,qc2,qak,Su.d,Su.c,qbZ,Wa,qan,g6,g7,g8,h0,h1,h2]
theorem qqL (g6:Z qab (.call 51 [.ptr 0 0,.int 6] (qak cs N lg k t))=some (.ret (.int pc) (qak cs N lg k t)))
  (g7:Z qab (.call 51 [.ptr 0 0,.int 7] (qak cs N lg k t))=some (.ret (.int sp) (qak cs N lg k t)))
  (g8:Z qab (.call 51 [.ptr 0 0,.int 8] (qak cs N lg k t))=some (.ret (.int fuel) (qak cs N lg k t)))
  (hf : ¬ fuel<1) (hp0 : ¬ pc<0) (hp1 : ¬ (c.length:Int)<=pc)
  (hc:qag 2 (.dat (codeDV f c)) pc=some (.dat (.imm (qcu c) (pc.toNat*2)))) (hc2:qaj (qcu c) (pc.toNat*2) 2=some [.lit (.int .i64 op),.lit (.int .i64 n)])
  (hx:Z qab (.call 63 [.dat (.agg [.lit (.int .i64 op),.lit (.int .i64 n)]),.int sp] [])=some (.ret (.bool false) [])) :
  Z qab (.call 52 [.iface 0 (.ptr 0 0),s.d,qbZ f c e0 e1 e2] (qak cs N lg k t))=some (.ret (.tup [.bool true,.dat (.agg (qan [0,0,0,0])),.bool false]) (qak cs N lg k t)):=by
 refine qaa (pf:=F52) rfl rfl ?_
 simp only[qc2,qak] at g6 g7 g8
 simp[F52,qc2,qak,Su.d,Su.c,qbZ,Wa,qan,g6,g7,g8,hf,hp0,hp1,hc,hc2,hx]
end
end
section
open F
def insAt(c:List (Nat × Int))(pc:Int):Nat × Int:=c.getD pc.toNat (0,0)
def qiS(cs:List Int)(op:Nat):Int:=if popsN op=0 then 0 else getI cs (16+getI cs 7-popsN op)
def qiT(cs:List Int)(op:Nat):Int:=if popsN op=2 then getI cs (16+getI cs 7-popsN op+1) else 0
def qcq(cs:List Int)(op:Nat):List Int:=
 if popsN op=pushN op then qaK (qaK cs 8 (wr (getI cs 8-1))) 6 (wr (getI cs 6+1))
 else qaK (qaK (qaK cs 8 (wr (getI cs 8-1))) 6 (wr (getI cs 6+1))) 7 (getI cs 7-popsN op+pushN op)
def qcD(s:Su)(cs:List Int)(op:Nat)(n:Int):List Int:=
 if pushN op=0 then exC s (qcq cs op) op n (qiS cs op) (qiT cs op)
 else qaK (exC s (qcq cs op) op n (qiS cs op) (qiT cs op)) (16+getI cs 7-popsN op) (exV s (qcq cs op) op n (qiS cs op) (qiT cs op))
def qeg(c:List (Nat × Int))(cs:List Int):Bool:=
 !(decide (getI cs 8<1)||(decide (getI cs 6<0)||decide ((c.length:Int)<=getI cs 6)))&&quQ (insAt c (getI cs 6)).1 (insAt c (getI cs 6)).2 (getI cs 7)
structure StR where
 cs:List Int
 ended:Bool
 e:List Int
 em:Bool
def qbY(s:Su)(c:List (Nat × Int))(cs:List Int):StR:=
 if qeg c cs then
  let x:=insAt c (getI cs 6)
  ⟨qcD s cs x.1 x.2,decide ((x.1:Int)=21),exE (qcq cs x.1) x.1 (qiS cs x.1) (qiT cs x.1),exB (qcq cs x.1) x.1⟩
 else ⟨cs,true,[0,0,0,0],false⟩
def StR.v(r:StR):V := .tup [.bool r.ended,.dat (.agg (qan r.e)),.bool r.em]
@[simp] theorem qcE(cs:List Int)(op:Nat):(qcq cs op).length=cs.length:=by unfold qcq; split<;>simp
theorem qfb(s:Su)(cs:List Int)(op:Nat)(n a b:Int):(exC s cs op n a b).length=cs.length:=by
 unfold exC; split<;>(try split)<;>simp
theorem qkS(s:Su)(cs:List Int)(op:Nat)(n:Int):(qcD s cs op n).length=cs.length:=by
 unfold qcD; split<;>simp[qfb]
theorem qg1(s:Su)(c:List (Nat × Int))(cs:List Int):(qbY s c cs).cs.length=cs.length:=by
 unfold qbY; split
 ·exact qkS _ _ _ _
 ·rfl
theorem qmI(cs:List Int)(op:Nat)(a b:Int) : ∃ x1 x2 x3 x4,exE cs op a b=[x1,x2,x3,x4]:=by
 unfold exE; split<;>exact⟨_,_,_,_,rfl⟩
theorem qpd{op:Nat}{n sp:Int}(h:quQ op n sp=true):sp<=16/\(popsN op:Int)<=sp/\sp-popsN op+pushN op<=16/\(operN op=0\/(0<=n/\n<operN op)):=by
 simpa [quQ] using h
theorem qaG(cs:List Int)(i:Int):(ent cs i).length=2:=rfl
theorem qt5 (s:Su) (c:List (Nat × Int)) (f:Bool) (e0 e1 e2:Int) (cs:List Int) (N:Nat) (lg:List D) (k:Nat) (hl:lg.length=k*2) (hk:k<2^28) (hs:s.ok) (hN:cs.length=N) (h:N=s.n) (hc : ∀ x∈c,1<=x.1/\x.1<=21) (hcl:c.length<2^30) (hcan:qeg c cs=true) :
  ∃ lg' k',lg'.length=k'*2/\k'<=k+6/\Z qab (.call 52 [.iface 0 (.ptr 0 0),s.d,qbZ f c e0 e1 e2] (qak cs N lg k (k*2)))=some (.ret (qbY s c cs).v (qak (qbY s c cs).cs N lg' k' (k'*2))):=by
 have h48:48<=N:=by rw[h]; unfold Su.n; omega
 have hN1:N<1000:=by have:=hs.p3; have:=hs.b5; rw[h]; unfold Su.n; omega
 unfold qbY
 rw[if_pos hcan]
 simp only[qeg,Wq,Bool.not_eq_true',Yy,decide_eq_false_iff_not] at hcan
 obtain⟨⟨hf,hp0,hp1⟩,hx⟩:=hcan
 have hi:(getI cs 6).toNat<c.length:=by omega
 have hins:insAt c (getI cs 6)=c[(getI cs 6).toNat]:=by simp[insAt,Wn,hi]
 have hmem:=hc _ (Ya hi)
 have hcut:=qi3 c _ hi
 have hat:=qmV f c (getI cs 6) (by omega) (by omega)
 rw[<- hins] at hmem hcut
 generalize insAt c (getI cs 6)=ins at *
 obtain⟨op,n⟩:=ins
 simp only at hmem hcut hx ⊢
 obtain⟨q1,q2,q3,q4⟩:=qpd hx
 have hexe:=qxo op n (getI cs 7) hmem.1 hmem.2
 rw[hx] at hexe
 have c0:=qAJ op hmem.1 hmem.2
 have c1:=qAK op hmem.1 hmem.2
 have wa:=qaf (16+getI cs 7) (by omega)
 have hop:(op:Int)<22:=by omega
 have hp2:=qpL op
 have hu2:=qpM op
 obtain⟨x1,x2,x3,x4,hE⟩:=qmI (qcq cs op) op (qiS cs op) (qiT cs op)
 have s8:=qcp (cs:=cs) (n:=N) (i:=8) (v:=wr (getI cs 8-1)) hN (by omega) (by omega) hl (by omega)
 have s6:=qcp (cs:=qaK cs 8 (wr (getI cs 8-1))) (n:=N) (lg:=lg++ent cs 8) (k:=(k+1)) (i:=6) (v:=wr (getI cs 6+1)) (by simp[hN]) (by omega) (by omega) (by simp[qaG,hl]; omega) (by omega)
 obtain⟨p,hpp⟩ : ∃ p,popsN op=p:=⟨_,rfl⟩
 obtain⟨q,hqq⟩ : ∃ q,pushN op=q:=⟨_,rfl⟩
 simp only[hpp,hqq] at q2 q3 c0 c1 hp2 hu2
 by_cases hPQ:p=0/\q=0
 ·obtain⟨rfl,rfl⟩:=hPQ
  have eA:qiS cs op=0:=by simp[qiS,hpp]
  have eB:qiT cs op=0:=by simp[qiT,hpp]
  have eP:qcq cs op=(qaK (qaK cs 8 (wr (getI cs 8-1))) 6 (wr (getI cs 6+1))):=by simp[qcq,hpp,hqq]
  rw[eA,eB] at hE
  obtain⟨lg',k',hl',hk',hex⟩:=qvq s (qcq cs op) N ((lg++ent cs 8)++ent (qaK cs 8 (wr (getI cs 8-1))) 6) (k+2) op n (0) (0) hs (by simp only[qcE,hN]) h (by simp[qaG,hl]; omega) (by omega) hmem.1 hmem.2 q4
  rw[hE] at hex
  have ePost:qcD s cs op n=(exC s (qcq cs op) op n (0) (0)):=by simp[qcD,hpp,hqq,eA,eB]
  rw[ePost,eA,eB,StR.v,hE]
  refine⟨lg',k',hl',by omega,?_⟩
  rw[eP] at hex ⊢
  exact qrF (qaS hN (by omega) (by omega)) (qaS hN (by omega) (by omega)) (qaS hN (by omega) (by omega)) hf hp0 hp1 hat hcut hexe hop c0 c1 wa rfl wa rfl rfl s8 s6 hex
 by_cases hPQ:p=0/\q=1
 ·obtain⟨rfl,rfl⟩:=hPQ
  have eA:qiS cs op=0:=by simp[qiS,hpp]
  have eB:qiT cs op=0:=by simp[qiT,hpp]
  have eP:qcq cs op=(qaK (qaK (qaK cs 8 (wr (getI cs 8-1))) 6 (wr (getI cs 6+1))) 7 (getI cs 7+1)):=by simp[qcq,hpp,hqq]
  have s7:=qcp (cs:=(qaK (qaK cs 8 (wr (getI cs 8-1))) 6 (wr (getI cs 6+1)))) (n:=N) (lg:=(lg++ent cs 8)++ent (qaK cs 8 (wr (getI cs 8-1))) 6) (k:=(k+2)) (i:=7) (v:=(getI cs 7+1)) (by simp[hN]) (by omega) (by omega) (by simp[qaG,hl]; omega) (by omega)
  rw[eA,eB] at hE
  obtain⟨lg',k',hl',hk',hex⟩:=qvq s (qcq cs op) N (((lg++ent cs 8)++ent (qaK cs 8 (wr (getI cs 8-1))) 6)++ent (qaK (qaK cs 8 (wr (getI cs 8-1))) 6 (wr (getI cs 6+1))) 7) (k+3) op n (0) (0) hs (by simp only[qcE,hN]) h (by simp[qaG,hl]; omega) (by omega) hmem.1 hmem.2 q4
  rw[hE] at hex
  have sv:=qcp (cs:=(exC s (qcq cs op) op n (0) (0))) (n:=N) (lg:=lg') (k:=k') (i:=(16+getI cs 7)) (v:=(exV s (qcq cs op) op n (0) (0))) (by simp[qfb,hN]) (by omega) (by omega) hl' (by omega)
  have ePost:qcD s cs op n=qaK (exC s (qcq cs op) op n (0) (0)) (16+getI cs 7) (exV s (qcq cs op) op n (0) (0)):=by simp[qcD,hpp,hqq,eA,eB]
  rw[ePost,eA,eB,StR.v,hE]
  refine⟨lg'++ent (exC s (qcq cs op) op n (0) (0)) (16+getI cs 7),k'+1,by simp[qaG,hl']; omega,by omega,?_⟩
  rw[eP] at hex sv ⊢
  exact qrA (qaS hN (by omega) (by omega)) (qaS hN (by omega) (by omega)) (qaS hN (by omega) (by omega)) hf hp0 hp1 hat hcut hexe hop c0 c1 wa rfl wa rfl rfl s8 s6 (qaf _ (by omega)) (qaf _ (by omega)) s7 hex sv
 by_cases hPQ:p=1/\q=0
 ·obtain⟨rfl,rfl⟩:=hPQ
  have eA:qiS cs op=getI cs (16+getI cs 7-1):=by simp[qiS,hpp]
  have eB:qiT cs op=0:=by simp[qiT,hpp]
  have eP:qcq cs op=(qaK (qaK (qaK cs 8 (wr (getI cs 8-1))) 6 (wr (getI cs 6+1))) 7 (getI cs 7-1)):=by simp[qcq,hpp,hqq]
  have s7:=qcp (cs:=(qaK (qaK cs 8 (wr (getI cs 8-1))) 6 (wr (getI cs 6+1)))) (n:=N) (lg:=(lg++ent cs 8)++ent (qaK cs 8 (wr (getI cs 8-1))) 6) (k:=(k+2)) (i:=7) (v:=(getI cs 7-1)) (by simp[hN]) (by omega) (by omega) (by simp[qaG,hl]; omega) (by omega)
  rw[eA,eB] at hE
  obtain⟨lg',k',hl',hk',hex⟩:=qvq s (qcq cs op) N (((lg++ent cs 8)++ent (qaK cs 8 (wr (getI cs 8-1))) 6)++ent (qaK (qaK cs 8 (wr (getI cs 8-1))) 6 (wr (getI cs 6+1))) 7) (k+3) op n (getI cs (16+getI cs 7-1)) (0) hs (by simp only[qcE,hN]) h (by simp[qaG,hl]; omega) (by omega) hmem.1 hmem.2 q4
  rw[hE] at hex
  have ePost:qcD s cs op n=(exC s (qcq cs op) op n (getI cs (16+getI cs 7-1)) (0)):=by simp[qcD,hpp,hqq,eA,eB]
  rw[ePost,eA,eB,StR.v,hE]
  refine⟨lg',k',hl',by omega,?_⟩
  rw[eP] at hex ⊢
  exact qrB (qaS hN (by omega) (by omega)) (qaS hN (by omega) (by omega)) (qaS hN (by omega) (by omega)) hf hp0 hp1 hat hcut hexe hop c0 c1 wa (qaf _ (by omega)) rfl rfl (qaS hN (by omega) (by omega)) s8 s6 (qaf _ (by omega)) rfl s7 hex
 by_cases hPQ:p=1/\q=1
 ·obtain⟨rfl,rfl⟩:=hPQ
  have eA:qiS cs op=getI cs (16+getI cs 7-1):=by simp[qiS,hpp]
  have eB:qiT cs op=0:=by simp[qiT,hpp]
  have eP:qcq cs op=(qaK (qaK cs 8 (wr (getI cs 8-1))) 6 (wr (getI cs 6+1))):=by simp[qcq,hpp,hqq]
  rw[eA,eB] at hE
  obtain⟨lg',k',hl',hk',hex⟩:=qvq s (qcq cs op) N ((lg++ent cs 8)++ent (qaK cs 8 (wr (getI cs 8-1))) 6) (k+2) op n (getI cs (16+getI cs 7-1)) (0) hs (by simp only[qcE,hN]) h (by simp[qaG,hl]; omega) (by omega) hmem.1 hmem.2 q4
  rw[hE] at hex
  have sv:=qcp (cs:=(exC s (qcq cs op) op n (getI cs (16+getI cs 7-1)) (0))) (n:=N) (lg:=lg') (k:=k') (i:=(16+getI cs 7-1)) (v:=(exV s (qcq cs op) op n (getI cs (16+getI cs 7-1)) (0))) (by simp[qfb,hN]) (by omega) (by omega) hl' (by omega)
  have ePost:qcD s cs op n=qaK (exC s (qcq cs op) op n (getI cs (16+getI cs 7-1)) (0)) (16+getI cs 7-1) (exV s (qcq cs op) op n (getI cs (16+getI cs 7-1)) (0)):=by simp[qcD,hpp,hqq,eA,eB]
  rw[ePost,eA,eB,StR.v,hE]
  refine⟨lg'++ent (exC s (qcq cs op) op n (getI cs (16+getI cs 7-1)) (0)) (16+getI cs 7-1),k'+1,by simp[qaG,hl']; omega,by omega,?_⟩
  rw[eP] at hex sv ⊢
  exact qrC (qaS hN (by omega) (by omega)) (qaS hN (by omega) (by omega)) (qaS hN (by omega) (by omega)) hf hp0 hp1 hat hcut hexe hop c0 c1 wa (qaf _ (by omega)) rfl rfl (qaS hN (by omega) (by omega)) s8 s6 hex sv
 by_cases hPQ:p=2/\q=0
 ·obtain⟨rfl,rfl⟩:=hPQ
  have eA:qiS cs op=getI cs (16+getI cs 7-2):=by simp[qiS,hpp]
  have eB:qiT cs op=getI cs ((16+getI cs 7-2)+1):=by simp[qiT,hpp]
  have eP:qcq cs op=(qaK (qaK (qaK cs 8 (wr (getI cs 8-1))) 6 (wr (getI cs 6+1))) 7 (getI cs 7-2)):=by simp[qcq,hpp,hqq]
  have s7:=qcp (cs:=(qaK (qaK cs 8 (wr (getI cs 8-1))) 6 (wr (getI cs 6+1)))) (n:=N) (lg:=(lg++ent cs 8)++ent (qaK cs 8 (wr (getI cs 8-1))) 6) (k:=(k+2)) (i:=7) (v:=(getI cs 7-2)) (by simp[hN]) (by omega) (by omega) (by simp[qaG,hl]; omega) (by omega)
  rw[eA,eB] at hE
  obtain⟨lg',k',hl',hk',hex⟩:=qvq s (qcq cs op) N (((lg++ent cs 8)++ent (qaK cs 8 (wr (getI cs 8-1))) 6)++ent (qaK (qaK cs 8 (wr (getI cs 8-1))) 6 (wr (getI cs 6+1))) 7) (k+3) op n (getI cs (16+getI cs 7-2)) (getI cs ((16+getI cs 7-2)+1)) hs (by simp only[qcE,hN]) h (by simp[qaG,hl]; omega) (by omega) hmem.1 hmem.2 q4
  rw[hE] at hex
  have ePost:qcD s cs op n=(exC s (qcq cs op) op n (getI cs (16+getI cs 7-2)) (getI cs ((16+getI cs 7-2)+1))):=by simp[qcD,hpp,hqq,eA,eB]
  rw[ePost,eA,eB,StR.v,hE]
  refine⟨lg',k',hl',by omega,?_⟩
  rw[eP] at hex ⊢
  exact qrD (qaS hN (by omega) (by omega)) (qaS hN (by omega) (by omega)) (qaS hN (by omega) (by omega)) hf hp0 hp1 hat hcut hexe hop c0 c1 wa (qaf _ (by omega)) rfl rfl (qaS hN (by omega) (by omega)) (qaf _ (by omega)) (qaS hN (by omega) (by omega)) s8 s6 (qaf _ (by omega)) rfl s7 hex
 by_cases hPQ:p=2/\q=1
 ·obtain⟨rfl,rfl⟩:=hPQ
  have eA:qiS cs op=getI cs (16+getI cs 7-2):=by simp[qiS,hpp]
  have eB:qiT cs op=getI cs ((16+getI cs 7-2)+1):=by simp[qiT,hpp]
  have eP:qcq cs op=(qaK (qaK (qaK cs 8 (wr (getI cs 8-1))) 6 (wr (getI cs 6+1))) 7 (getI cs 7-2+1)):=by simp[qcq,hpp,hqq]
  have s7:=qcp (cs:=(qaK (qaK cs 8 (wr (getI cs 8-1))) 6 (wr (getI cs 6+1)))) (n:=N) (lg:=(lg++ent cs 8)++ent (qaK cs 8 (wr (getI cs 8-1))) 6) (k:=(k+2)) (i:=7) (v:=(getI cs 7-2+1)) (by simp[hN]) (by omega) (by omega) (by simp[qaG,hl]; omega) (by omega)
  rw[eA,eB] at hE
  obtain⟨lg',k',hl',hk',hex⟩:=qvq s (qcq cs op) N (((lg++ent cs 8)++ent (qaK cs 8 (wr (getI cs 8-1))) 6)++ent (qaK (qaK cs 8 (wr (getI cs 8-1))) 6 (wr (getI cs 6+1))) 7) (k+3) op n (getI cs (16+getI cs 7-2)) (getI cs ((16+getI cs 7-2)+1)) hs (by simp only[qcE,hN]) h (by simp[qaG,hl]; omega) (by omega) hmem.1 hmem.2 q4
  rw[hE] at hex
  have sv:=qcp (cs:=(exC s (qcq cs op) op n (getI cs (16+getI cs 7-2)) (getI cs ((16+getI cs 7-2)+1)))) (n:=N) (lg:=lg') (k:=k') (i:=(16+getI cs 7-2)) (v:=(exV s (qcq cs op) op n (getI cs (16+getI cs 7-2)) (getI cs ((16+getI cs 7-2)+1)))) (by simp[qfb,hN]) (by omega) (by omega) hl' (by omega)
  have ePost:qcD s cs op n=qaK (exC s (qcq cs op) op n (getI cs (16+getI cs 7-2)) (getI cs ((16+getI cs 7-2)+1))) (16+getI cs 7-2) (exV s (qcq cs op) op n (getI cs (16+getI cs 7-2)) (getI cs ((16+getI cs 7-2)+1))):=by simp[qcD,hpp,hqq,eA,eB]
  rw[ePost,eA,eB,StR.v,hE]
  refine⟨lg'++ent (exC s (qcq cs op) op n (getI cs (16+getI cs 7-2)) (getI cs ((16+getI cs 7-2)+1))) (16+getI cs 7-2),k'+1,by simp[qaG,hl']; omega,by omega,?_⟩
  rw[eP] at hex sv ⊢
  exact qrE (qaS hN (by omega) (by omega)) (qaS hN (by omega) (by omega)) (qaS hN (by omega) (by omega)) hf hp0 hp1 hat hcut hexe hop c0 c1 wa (qaf _ (by omega)) rfl rfl (qaS hN (by omega) (by omega)) (qaf _ (by omega)) (qaS hN (by omega) (by omega)) s8 s6 (qaf _ (by omega)) (qaf _ (by omega)) s7 hex sv
 exfalso; omega
end
section
open F
theorem ql5{s:Su}{c:List (Nat × Int)}{cs:List Int}(h:qeg c cs=false):qbY s c cs=⟨cs,true,[0,0,0,0],false⟩:=by
 unfold qbY; rw[h]; rfl
theorem qqc (c:List (Nat × Int)) (f:Bool) (e0 e1 e2 h self other fuel:Int) (cs:List Int) (N:Nat) (hN:cs.length=N) (h48:48<=N) (hb : ¬ (h<0\/3<=h\/qiM e0 e1 e2 h<0)) :
  ∃ lg' k',lg'.length=k'*2/\k'<=5/\Z qab (.call 49 [.iface 0 (.ptr 0 0),qbZ f c e0 e1 e2,.int h,.int self,.int other,.int fuel] (qc2 cs N))=some (.ret (.bool true) (qak (qhL cs (qiM e0 e1 e2 h) fuel self other) N lg' k' (k'*2))):=by
 have he : ¬ qiM e0 e1 e2 h<0:=by omega
 have s6:=qvG (cs:=cs) (n:=N) (i:=6) (v:=(qiM e0 e1 e2 h)) hN (by omega) (by omega)
 have s7:=qcp (cs:=(qaK cs 6 (qiM e0 e1 e2 h))) (n:=N) (lg:=(ent cs 6)) (k:=(1)) (i:=7) (v:=0) (by simp[hN]) (by omega) (by omega) (by simp[qaG]) (by omega)
 have s8:=qcp (cs:=(qaK (qaK cs 6 (qiM e0 e1 e2 h)) 7 0)) (n:=N) (lg:=((ent cs 6)++ent (qaK cs 6 (qiM e0 e1 e2 h)) 7)) (k:=(2)) (i:=8) (v:=fuel) (by simp[hN]) (by omega) (by omega) (by simp[qaG]) (by omega)
 have s9:=qcp (cs:=(qaK (qaK (qaK cs 6 (qiM e0 e1 e2 h)) 7 0) 8 fuel)) (n:=N) (lg:=(((ent cs 6)++ent (qaK cs 6 (qiM e0 e1 e2 h)) 7)++ent (qaK (qaK cs 6 (qiM e0 e1 e2 h)) 7 0) 8)) (k:=(3)) (i:=9) (v:=self) (by simp[hN]) (by omega) (by omega) (by simp[qaG]) (by omega)
 have s10:=qcp (cs:=(qaK (qaK (qaK (qaK cs 6 (qiM e0 e1 e2 h)) 7 0) 8 fuel) 9 self)) (n:=N) (lg:=((((ent cs 6)++ent (qaK cs 6 (qiM e0 e1 e2 h)) 7)++ent (qaK (qaK cs 6 (qiM e0 e1 e2 h)) 7 0) 8)++ent (qaK (qaK (qaK cs 6 (qiM e0 e1 e2 h)) 7 0) 8 fuel) 9)) (k:=(4)) (i:=10) (v:=other) (by simp[hN]) (by omega) (by omega) (by simp[qaG]) (by omega)
 refine⟨(((((ent cs 6)++ent (qaK cs 6 (qiM e0 e1 e2 h)) 7)++ent (qaK (qaK cs 6 (qiM e0 e1 e2 h)) 7 0) 8)++ent (qaK (qaK (qaK cs 6 (qiM e0 e1 e2 h)) 7 0) 8 fuel) 9)++ent (qaK (qaK (qaK (qaK cs 6 (qiM e0 e1 e2 h)) 7 0) 8 fuel) 9 self) 10),5,by simp[qaG],by omega,?_⟩
 unfold qhL
 obtain rfl|rfl|rfl:h=0\/h=1\/h=2:=by omega
 ·exact qqI he rfl s6 s7 s8 s9 s10
 ·exact qqJ he rfl s6 s7 s8 s9 s10
 ·exact qqK he rfl s6 s7 s8 s9 s10
theorem qsY (s:Su) (c:List (Nat × Int)) (f:Bool) (e0 e1 e2:Int) (cs:List Int) (N:Nat) (lg:List D) (k:Nat) (hl:lg.length=k*2) (hk:k<2^28) (hN:cs.length=N) (h48:48<=N) (hc : ∀ x∈c,1<=x.1/\x.1<=21) (hcl:c.length<2^30) (hcan:qeg c cs=false) :
  Z qab (.call 52 [.iface 0 (.ptr 0 0),s.d,qbZ f c e0 e1 e2] (qak cs N lg k (k*2)))=some (.ret (qbY s c cs).v (qak cs N lg k (k*2))):=by
 rw[ql5 hcan,StR.v]
 by_cases hb:getI cs 8<1\/getI cs 6<0\/(c.length:Int)<=getI cs 6
 ·exact qtw (qaS hN (by omega) (by omega)) (qaS hN (by omega) (by omega)) (qaS hN (by omega) (by omega)) hb
 ·have hf : ¬ getI cs 8<1:=by omega
  have hp0 : ¬ getI cs 6<0:=by omega
  have hp1 : ¬ (c.length:Int)<=getI cs 6:=by omega
  have hi:(getI cs 6).toNat<c.length:=by omega
  have hins:insAt c (getI cs 6)=c[(getI cs 6).toNat]:=by simp[insAt,Wn,hi]
  have hmem:=hc _ (Ya hi)
  have hcut:=qi3 c _ hi
  have hat:=qmV f c (getI cs 6) (by omega) (by omega)
  rw[<- hins] at hmem hcut
  have hx:quQ (insAt c (getI cs 6)).1 (insAt c (getI cs 6)).2 (getI cs 7)=false:=by
   simpa [qeg,hf,hp0,hp1] using hcan
  have hexe:=qxo (insAt c (getI cs 6)).1 (insAt c (getI cs 6)).2 (getI cs 7) hmem.1 hmem.2
  rw[hx] at hexe
  exact qqL (qaS hN (by omega) (by omega)) (qaS hN (by omega) (by omega)) (qaS hN (by omega) (by omega)) hf hp0 hp1 hat hcut hexe
end
section
open F
theorem qp5{cs:List Int}{op:Nat}{j:Nat}(h6:j≠6)(h7:j≠7)(h8:j≠8):getN (qcq cs op) j=getN cs j:=by
 have e6:(6:Int).toNat≠j:=by simp; omega
 have e7:(7:Int).toNat≠j:=by simp; omega
 have e8:(8:Int).toNat≠j:=by simp; omega
 unfold qcq
 split
 ·rw[qam e6,qam e8]
 ·rw[qam e7,qam e6,qam e8]
theorem qxw{cs:List Int}{op:Nat}(h:8<cs.length):getN (qcq cs op) 8=wr (getI cs 8-1):=by
 unfold qcq
 split
 ·rw[qam (by simp),qax (i:=8) (j:=8) (by decide) h]
 ·rw[qam (by simp),qam (by simp),qax (i:=8) (j:=8) (by decide) h]
theorem qgf{s:Su}{a:Int}(h:0<=bodyI s a):48+4*(s.p:Int)<=bodyI s a/\bodyI s a+8<=s.n:=by
 unfold bodyI at h ⊢
 split at h
 ·omega
 ·rename_i h1
  rw[if_neg h1]
  unfold Su.n
  omega
theorem qAd (s:Su) (c:List (Nat × Int)) (f:Bool) (e0 e1 e2:Int) (cs:List Int) (N:Nat) (lg:List D) (k:Nat) (hl:lg.length=k*2) (hk:k<2^28) (hs:s.ok) (hN:cs.length=N) (h:N=s.n) (hc : ∀ x∈c,1<=x.1/\x.1<=21) (hcl:c.length<2^30) :
  ∃ lg' k',lg'.length=k'*2/\k'<=k+6/\Z qab (.call 52 [.iface 0 (.ptr 0 0),s.d,qbZ f c e0 e1 e2] (qak cs N lg k (k*2)))=some (.ret (qbY s c cs).v (qak (qbY s c cs).cs N lg' k' (k'*2))):=by
 have h48:48<=N:=by rw[h]; unfold Su.n; omega
 cases hcan:qeg c cs with
 |true=>exact qt5 s c f e0 e1 e2 cs N lg k hl hk hs hN h hc hcl hcan
 |false=>
  refine⟨lg,k,hl,by omega,?_⟩
  have:=qsY s c f e0 e1 e2 cs N lg k hl hk hN h48 hc hcl hcan
  rw[this,ql5 hcan]
end
section
open F
theorem qed{n m:Int}(h1:I64 n)(hm:1<=m):Z qab (.call 17 [.int n,.int m] [])=some (.ret (.int (around n m)) []):=by
 refine qaa (pf:=F17) rfl rfl ?_
 have hm0:m≠0:=by omega
 unfold I64 at h1
 by_cases hn:n<0
 ·simp (disch:=omega) [F17,hn,hm0,around,qaf]
 ·simp[F17,hn,hm0,around]
def qkB(ps:List (Int × Int)):List D:=ps.flatMap fun p=>[.lit (.int .i64 p.1),.lit (.int .i64 p.2)]
def qg7:List (Int × Int)->D
 |[] => .lit (.slice none 0 0)
 |p::ps => .sl (qkB (p::ps)) (p::ps).length true
@[simp] theorem qv7(ps:List (Int × Int)):V.one (.dat (qg7 ps))=true:=by cases ps<;>rfl
@[simp] theorem qtt(ps:List (Int × Int)):V.cells (.dat (qg7 ps))=[.dat (qg7 ps)]:=by cases ps<;>rfl
theorem qox{n:Int}(h:I64 n) : ∃ r ps,Z qab (.call 60 [.int n] [])=some (.ret (.dat (.agg [.lit (.int .i64 r),qg7 ps])) []):=by
 have a:=qed h (m:=1000) (by omega)
 have b:=around_lt h (m:=1000) (by omega)
 generalize around n 1000=k at a b
 have d:=qbw b.1 (m:=7) (by omega)
 have e:=qaL d.1 (m:=5) (by omega)
 have g:=qaL b.1 (m:=7) (by omega)
 have w0:=qaf (k.tdiv 7) (by omega)
 have w1:=qaf (1+(k.tdiv 7).tmod 5) (by omega)
 have w2:=qaf (512*(1+(k.tdiv 7).tmod 5)) (by omega)
 generalize hr:512*(1+(k.tdiv 7).tmod 5)=r at w2
 have hr2:0<=r/\r<10000:=by omega
 generalize hm:k.tmod 7=m at g
 have w3:=qaf (-r) (by omega)
 have w4:=qaf (2*r) (by omega)
 have w5:=qaf (-2*r) (by omega)
 have hm2:m=0\/m=1\/m=2\/m=3\/m=4\/m=5\/m=6:=by omega
 rcases hm2 with hm2|hm2|hm2|hm2|hm2|hm2|hm2
 ·exact⟨r,[],qaa (pf:=F60) rfl rfl (by simp[F60,a,w0,w1,hr,w2,hm,hm2,w3,w4,w5,qg7,qkB])⟩
 ·exact⟨r,[],qaa (pf:=F60) rfl rfl (by simp[F60,a,w0,w1,hr,w2,hm,hm2,w3,w4,w5,qg7,qkB])⟩
 ·exact⟨r,[],qaa (pf:=F60) rfl rfl (by simp[F60,a,w0,w1,hr,w2,hm,hm2,w3,w4,w5,qg7,qkB])⟩
 ·exact⟨0,[(-r,-r),(r,-r),(r,r),(-r,r)],qaa (pf:=F60) rfl rfl (by simp[F60,a,w0,w1,hr,w2,hm,hm2,w3,w4,w5,qg7,qkB])⟩
 ·exact⟨0,[(-r,-r),(r,-r),(r,r),(-r,r)],qaa (pf:=F60) rfl rfl (by simp[F60,a,w0,w1,hr,w2,hm,hm2,w3,w4,w5,qg7,qkB])⟩
 ·exact⟨0,[(-r,-r),(r,-r),(0,r)],qaa (pf:=F60) rfl rfl (by simp[F60,a,w0,w1,hr,w2,hm,hm2,w3,w4,w5,qg7,qkB])⟩
 ·exact⟨0,[(-2*r,-300),(2*r,-300),(2*r,300),(-2*r,300)],qaa (pf:=F60) rfl rfl (by simp[F60,a,w0,w1,hr,w2,hm,hm2,w3,w4,w5,qg7,qkB])⟩
end
section
open F
def qbU:Ob := .cells [.int 0,.dat (.lit (.slice none 0 0)),.int 0,.int 0,.int 0,.int 0,.dat (.lit (.slice none 0 0)),.dat (.lit (.slice none 0 0)),.int 0,.int 0,.int 0,.int 0,.int 0,.int 0,.int 0,.int 0]
def InK(K:List Int):Prop := ∀ x∈K,0<=x/\x<1000000
def qnA(xs:List Int)(i:Nat):Int:=if i<xs.length then around (getN xs i) 1000000 else 0
theorem qmA{xs:List Int}(hx : ∀ x∈xs,I64 x)(i:Nat):0<=qnA xs i/\qnA xs i<1000000:=by
 unfold qnA
 split
 ·rename_i h
  exact around_lt (hx _ (qcN h)) (by omega)
 ·omega
def qp9(d:D)(k:V)(i:Int):Fr:=[(0,.dat d),(2,.ptr 0 0),(3,k),(4,.int i)]
theorem qyR(d:D)(K:List Int):Z qab (.loop 0 F45l0 (qp9 d (.gsl (qan K) 24 1 1) 24) [qbU,.tip 24])=some (.out (.exit 0) (qp9 d (.gsl (qan K) 24 1 1) 24++[(12,.bool false)]) [qbU,.tip 24]):=by
 rw[qac]
 simp[qad,qeR,qp9,qbU,Wa]
theorem qyS {d:D} {xs:List Int} (hd:IsRow d xs) (hx : ∀ x∈xs,I64 x) (m i:Nat) (hm:i+1+m=24) (K:List Int) (hK:K.length=i+1) (hk:InK K) :
  ∃ K',K'.length=24/\InK K'/\Z qab (.loop 0 F45l0 (qp9 d (.gsl (qan K) (i+1) 1 1) (i+1:Nat)) [qbU,.tip (i+1)])=some (.out (.exit 0) (qp9 d (.gsl (qan K') 24 1 1) 24++[(12,.bool false)]) [qbU,.tip 24]):=by
 induction m generalizing i K with
 |zero=>
  have:i=23:=by omega
  subst this
  exact⟨K,hK,hk,qyR d K⟩
 |succ m ih=>
  obtain⟨K',h1,h2,h3⟩:=ih (i+1) (by omega) (K++[qnA xs (i+1)]) (by simp[hK]) (by
   intro x hx'
   rcases Wl.1 hx' with h|h
   ·exact hk x h
   ·simp only[Wk] at h; subst h; exact qmA hx _)
  refine⟨K',h1,h2,?_⟩
  have w1:=qaf (((i+1:Nat):Int)+1) (by omega)
  have b1:((i+1:Nat):Int)<24:=by omega
  have hr:qaC (i+1+1) 8=true:=by simp[qaC]; omega
  have hI:(qan K).length=i+1:=by simp[hK]
  rw[qk0] at h3
  simp only[qp9,qbU] at h3 ⊢
  rw[show ((i+1+1:Nat):Int)=((i+1:Nat):Int)+1 by omega] at h3
  rw[qac]
  generalize hj:((i+1:Nat):Int)=j at *
  by_cases hl:j<xs.length
  ·have e1:=hd.at_ j (by omega) hl
   have hjn:j.toNat=i+1:=by omega
   rw[hjn] at e1
   have e2:=qaB xs (i+1) (by omega)
   have e3:=qed (hx _ (qcN (xs:=xs) (i:=i+1) (by omega))) (m:=1000000) (by omega)
   have e4:qnA xs (i+1)=around (getN xs (i+1)) 1000000:=by simp[qnA]; omega
   rw[e4] at h3
   simp only[qan,List.map] at h3
   simp only[qan] at hI e1 e2
   simp[qad,qeR,Wa,b1,hd.len,hl,e1,e2,e3,w1,hr,hI,qbQ,qkw,qan,h3]
  ·have e4:qnA xs (i+1)=0:=by simp[qnA]; omega
   rw[e4] at h3
   simp only[qan,List.map] at h3
   simp only[qan] at hI
   simp[qad,qeR,Wa,b1,hd.len,hl,w1,hr,hI,qbQ,qkw,qan,h3]
end
section
open F
theorem qAe {d:D} {xs:List Int} (hd:IsRow d xs) (hx : ∀ x∈xs,I64 x) :
  ∃ K',K'.length=24/\InK K'/\Z qab (.loop 0 F45l0 (qp9 d (.dat (.lit (.slice none 0 0))) 0) [qbU])=some (.out (.exit 0) (qp9 d (.gsl (qan K') 24 1 1) 24++[(12,.bool false)]) [qbU,.tip 24]):=by
 obtain⟨K',h1,h2,h3⟩:=qyS hd hx 23 0 (by omega) [qnA xs 0] rfl (by
  intro x h
  simp only[Wk] at h; subst h; exact qmA hx _)
 refine⟨K',h1,h2,?_⟩
 have hr:qaC 1 8=true:=by simp[qaC]
 have w1:=qaf (1:Int) (by omega)
 simp only[qp9,qbU] at h3 ⊢
 rw[show ((0+1:Nat):Int)=1 from rfl,show (0+1:Nat)=1 from rfl] at h3
 rw[qac]
 by_cases hl:(0:Int)<xs.length
 ·have e1:=hd.at_ 0 (by omega) hl
  have e2:=qaB xs 0 (by omega)
  have e3:=qed (hx _ (qcN (xs:=xs) (i:=0) (by omega))) (m:=1000000) (by omega)
  have e4:qnA xs 0=around (getN xs 0) 1000000:=by unfold qnA; rw[if_pos (by omega)]
  rw[e4] at h3
  simp only[qan,List.map] at h3
  simp only[qan,show (0:Int).toNat=0 from rfl] at e1 e2
  have hl':0<xs.length:=by omega
  simp[qad,qeR,Wa,hd.len,hl,hl',e1,e2,e3,w1,hr,qbQ,qkw,qan,h3]
 ·have e4:qnA xs 0=0:=by unfold qnA; rw[if_neg (by omega)]
  rw[e4] at h3
  simp only[qan,List.map] at h3
  have hl' : ¬ 0<xs.length:=by omega
  have hl2:xs.length=0:=by omega
  simp[qad,qeR,Wa,hd.len,hl,hl',hl2,w1,hr,qbQ,qkw,qan,h3]
end
section
open F
structure Bo where
 r:Int
 ps:List (Int × Int)
 x:Int
 y:Int
 vx:Int
 vy:Int
 inv:Int
 a:Int
 b:Int
def Bo.c(b:Bo):List D:=[.lit (.int .i64 b.r),qg7 b.ps,.lit (.int .i64 b.x),.lit (.int .i64 b.y),.lit (.int .i64 b.vx),.lit (.int .i64 b.vy),.lit (.int .i64 b.inv),.lit (.int .i64 b.a),.lit (.int .i64 b.b)]
def boC(bs:List Bo):List D:=bs.flatMap Bo.c
@[simp] theorem qvx(bs:List Bo):(boC bs).length=bs.length*9:=by
 induction bs with
 |nil=>rfl
 |cons b bs ih=>simp only[boC,List.flatMap_cons,Wb,Wd] at ih ⊢; rw[ih]; simp[Bo.c]; omega
theorem qnV(a b:List Bo):boC (a++b)=boC a++boC b:=by simp[boC]
structure Sc where
 p:Int
 ds:List D
 nd:Nat
 fog:Int
 gy:Int
 push:Int
 drag:Int
 rest:Int
 rounds:Int
def Sc.ob(s:Sc)(bs:V):Ob := .cells [.int s.p,bs,.int (-12000),.int (-9000),.int 12000,.int 9000,.dat (.sl qmZ 3 true),.dat (.sl s.ds s.nd true),.int s.fog,.int 0,.int s.gy,.int s.push,.int s.drag,.int s.rest,.int s.rounds,.int 60]
def sFr(K:List Int)(i:Int):Fr:=[(2,.ptr 0 0),(3,.gsl (qan K) 24 1 1),(6,.ptr 2 0),(7,.int i)]
theorem qpO(i:Nat)(h:i<5) : ∃ v,qaj [D.lit (.int .i64 1024),.lit (.int .i64 1024),.lit (.int .i64 512),.lit (.int .i64 2048),.lit (.int .i64 0)] i 1=some [.lit (.int .i64 v)]:=by
 match i,h with
 |0,_=>exact⟨_,rfl⟩
 |1,_=>exact⟨_,rfl⟩
 |2,_=>exact⟨_,rfl⟩
 |3,_=>exact⟨_,rfl⟩
 |4,_=>exact⟨_,rfl⟩
theorem qdA(K:List Int)(n sz l:Nat)(i:Int)(h0:0<=i)(h1:i<n):qag 1 (.gsl (qan K) n sz l) i=some (.dat (.imm (qan K) i.toNat)):=by
 simp[qag,h0,h1]
def qpP(s:Sc)(K:List Int):Int:=s.p+(((getN K 3).tdiv 3).tmod 3)
theorem qzt (s:Sc) {K:List Int} (hK:K.length=24) (hk:InK K) (h1:1<=s.p) (h3:s.p<=3) (bs:List Bo) (i:Nat) (hi:(i:Int)<qpP s K) (hb:bs.length=i) (h0:1<=i) :
  ∃ b:Bo,Z qab (.loop 0 F45l1 (sFr K i) [qbU,.tip 24,s.ob (.gsl (boC bs) i 9 3),.tip (i*9)])=Z qab (.loop 0 F45l1 (sFr K (i+1:Nat)) [qbU,.tip 24,s.ob (.gsl (boC (bs++[b])) (i+1) 9 3),.tip ((i+1)*9)]):=by
 have gm : ∀ j,j<24->0<=getN K j/\getN K j<1000000:=fun j hj=>hk _ (qcN (by omega))
 have q3:=qbw (gm 3 (by omega)).1 (m:=3) (by omega)
 have r3:=qaL q3.1 (m:=3) (by omega)
 unfold qpP at hi
 have hi5:i<5:=by omega
 have g3:=gm 3 (by omega)
 have g4:=gm (4+2*i) (by omega)
 have g5:=gm (5+2*i) (by omega)
 obtain⟨r,ps,hsh⟩:=qox (n:=getN K (4+2*i)) (by unfold I64; omega)
 have c3:=qaB K 3 (by omega)
 have c4:=qaB K (4+2*i) (by omega)
 have c5:=qaB K (5+2*i) (by omega)
 generalize getN K (4+2*i)=n at *
 generalize getN K (5+2*i)=m at *
 generalize getN K 3=k3 at *
 have a1:=qbw g4.1 (m:=1000) (by omega)
 have a2:=qaL a1.1 (m:=13) (by omega)
 have a3:=qbw g5.1 (m:=50) (by omega)
 have a4:=qaL a3.1 (m:=11) (by omega)
 have a5:=qbw g5.1 (m:=550) (by omega)
 have a6:=qaL a5.1 (m:=9) (by omega)
 have a7:=qbw g4.1 (m:=13000) (by omega)
 have a8:=qaL a7.1 (m:=9) (by omega)
 have a9:=qbw g5.1 (m:=5000) (by omega)
 have a10:=qaL a9.1 (m:=5) (by omega)
 have i0:(0:Int)<=i:=by omega
 obtain⟨iv,hiv⟩:=qpO ((m.tdiv 5000).tmod 5).toNat (by omega)
 have w1:=qaf (k3.tdiv 3) (by omega)
 have w2:=qaf (s.p+(k3.tdiv 3).tmod 3) (by omega)
 have w3:=qaf (2*(i:Int)) (by omega)
 have w4:=qaf (4+2*(i:Int)) (by omega)
 have w5:=qaf (5+2*(i:Int)) (by omega)
 have w6:=qaf (n.tdiv 1000) (by omega)
 have w7:=qaf ((n.tdiv 1000).tmod 13-6) (by omega)
 have w8:=qaf (((n.tdiv 1000).tmod 13-6)*900) (by omega)
 have w9:=qaf (m.tdiv 50) (by omega)
 have w10:=qaf ((m.tdiv 50).tmod 11-5) (by omega)
 have w11:=qaf (((m.tdiv 50).tmod 11-5)*800) (by omega)
 have w12:=qaf (m.tdiv 550) (by omega)
 have w13:=qaf ((m.tdiv 550).tmod 9-4) (by omega)
 have w14:=qaf (((m.tdiv 550).tmod 9-4)*300) (by omega)
 have w15:=qaf (n.tdiv 13000) (by omega)
 have w16:=qaf ((n.tdiv 13000).tmod 9-4) (by omega)
 have w17:=qaf (((n.tdiv 13000).tmod 9-4)*300) (by omega)
 have w18:=qaf (m.tdiv 5000) (by omega)
 have w19:=qaf ((i:Int)+1) (by omega)
 have s3:=qdA K 24 1 1 3 (by omega) (by omega)
 have s4:=qdA K 24 1 1 (4+2*(i:Int)) (by omega) (by omega)
 have s5:=qdA K 24 1 1 (5+2*(i:Int)) (by omega) (by omega)
 rw[show (4+2*(i:Int)).toNat=4+2*i by omega] at s4
 rw[show (5+2*(i:Int)).toNat=5+2*i by omega] at s5
 rw[show (3:Int).toNat=3 from rfl] at s3
 have hr:qaC (i+1) 88=true:=by simp[qaC]; omega
 refine⟨⟨r,ps,((n.tdiv 1000).tmod 13-6)*900,((m.tdiv 50).tmod 11-5)*800,((m.tdiv 550).tmod 9-4)*300,((n.tdiv 13000).tmod 9-4)*300,iv,m.tmod 50,n.tmod 7⟩,?_⟩
 have hsi:qag 1 (.dat (.sl [D.lit (.int .i64 1024),.lit (.int .i64 1024),.lit (.int .i64 512),.lit (.int .i64 2048),.lit (.int .i64 0)] 5 true)) ((m.tdiv 5000).tmod 5)=some (.dat (.imm [D.lit (.int .i64 1024),.lit (.int .i64 1024),.lit (.int .i64 512),.lit (.int .i64 2048),.lit (.int .i64 0)] ((m.tdiv 5000).tmod 5).toNat)):=by
  simp[qag,a10.1,a10.2]
 rw[qnV,qac (prog:=qab) 0 F45l1 (sFr K i)]
 have hbl:(boC bs).length=i*9:=by simp[hb]
 generalize boC bs=B at *
 simp[qad,qh6,sFr,qbU,Sc.ob,Wa,qa9,qaq,s3,s4,s5,c3,c4,c5,hsh,hiv,hsi,w1,w2,w3,w4,w5,w6,w7,w8,w9,w10,w11,w12,w13,w14,w15,w16,w17,w18,w19,hi,hr,hbl,qbQ,qkw,boC,Bo.c]
 rw[show (i+1)*9=i*9+9 by omega]
 simp only[qac]
 congr 1
theorem qxp (s:Sc) {K:List Int} (hK:K.length=24) (hk:InK K) (h1:1<=s.p) (h3:s.p<=3) :
  ∃ b:Bo,Z qab (.loop 0 F45l1 (sFr K 0) [qbU,.tip 24,s.ob (.dat (.lit (.slice none 0 0)))])=Z qab (.loop 0 F45l1 (sFr K 1) [qbU,.tip 24,s.ob (.gsl (boC [b]) 1 9 3),.tip 9]):=by
 have gm : ∀ j,j<24->0<=getN K j/\getN K j<1000000:=fun j hj=>hk _ (qcN (by omega))
 have q3:=qbw (gm 3 (by omega)).1 (m:=3) (by omega)
 have r3:=qaL q3.1 (m:=3) (by omega)
 have hi:(0:Int)<s.p+(((getN K 3).tdiv 3).tmod 3):=by omega
 have g3:=gm 3 (by omega)
 have g4:=gm 4 (by omega)
 have g5:=gm 5 (by omega)
 obtain⟨r,ps,hsh⟩:=qox (n:=getN K 4) (by unfold I64; omega)
 have c3:=qaB K 3 (by omega)
 have c4:=qaB K 4 (by omega)
 have c5:=qaB K 5 (by omega)
 generalize getN K 4=n at *
 generalize getN K 5=m at *
 generalize getN K 3=k3 at *
 have a1:=qbw g4.1 (m:=1000) (by omega)
 have a2:=qaL a1.1 (m:=13) (by omega)
 have a3:=qbw g5.1 (m:=50) (by omega)
 have a4:=qaL a3.1 (m:=11) (by omega)
 have a5:=qbw g5.1 (m:=550) (by omega)
 have a6:=qaL a5.1 (m:=9) (by omega)
 have a7:=qbw g4.1 (m:=13000) (by omega)
 have a8:=qaL a7.1 (m:=9) (by omega)
 have a9:=qbw g5.1 (m:=5000) (by omega)
 have a10:=qaL a9.1 (m:=5) (by omega)
 obtain⟨iv,hiv⟩:=qpO ((m.tdiv 5000).tmod 5).toNat (by omega)
 have w1:=qaf (k3.tdiv 3) (by omega)
 have w2:=qaf (s.p+(k3.tdiv 3).tmod 3) (by omega)
 have w3:=qaf 0 (by omega)
 have w4:=qaf 4 (by omega)
 have w5:=qaf 5 (by omega)
 have w6:=qaf (n.tdiv 1000) (by omega)
 have w7:=qaf ((n.tdiv 1000).tmod 13-6) (by omega)
 have w8:=qaf (((n.tdiv 1000).tmod 13-6)*900) (by omega)
 have w9:=qaf (m.tdiv 50) (by omega)
 have w10:=qaf ((m.tdiv 50).tmod 11-5) (by omega)
 have w11:=qaf (((m.tdiv 50).tmod 11-5)*800) (by omega)
 have w12:=qaf (m.tdiv 550) (by omega)
 have w13:=qaf ((m.tdiv 550).tmod 9-4) (by omega)
 have w14:=qaf (((m.tdiv 550).tmod 9-4)*300) (by omega)
 have w15:=qaf (n.tdiv 13000) (by omega)
 have w16:=qaf ((n.tdiv 13000).tmod 9-4) (by omega)
 have w17:=qaf (((n.tdiv 13000).tmod 9-4)*300) (by omega)
 have w18:=qaf (m.tdiv 5000) (by omega)
 have w19:=qaf 1 (by omega)
 have s3:=qdA K 24 1 1 3 (by omega) (by omega)
 have s4:=qdA K 24 1 1 4 (by omega) (by omega)
 have s5:=qdA K 24 1 1 5 (by omega) (by omega)
 rw[show (4:Int).toNat=4 from rfl] at s4
 rw[show (5:Int).toNat=5 from rfl] at s5
 rw[show (3:Int).toNat=3 from rfl] at s3
 have hr:qaC 1 88=true:=by simp[qaC]
 refine⟨⟨r,ps,((n.tdiv 1000).tmod 13-6)*900,((m.tdiv 50).tmod 11-5)*800,((m.tdiv 550).tmod 9-4)*300,((n.tdiv 13000).tmod 9-4)*300,iv,m.tmod 50,n.tmod 7⟩,?_⟩
 have hsi:qag 1 (.dat (.sl [D.lit (.int .i64 1024),.lit (.int .i64 1024),.lit (.int .i64 512),.lit (.int .i64 2048),.lit (.int .i64 0)] 5 true)) ((m.tdiv 5000).tmod 5)=some (.dat (.imm [D.lit (.int .i64 1024),.lit (.int .i64 1024),.lit (.int .i64 512),.lit (.int .i64 2048),.lit (.int .i64 0)] ((m.tdiv 5000).tmod 5).toNat)):=by
  simp[qag,a10.1,a10.2]
 rw[qac (prog:=qab) 0 F45l1 (sFr K 0)]
 simp[qad,qh6,sFr,qbU,Sc.ob,Wa,qa9,qaq,s3,s4,s5,c3,c4,c5,hsh,hiv,hsi,w1,w2,w3,w4,w5,w6,w7,w8,w9,w10,w11,w12,w13,w14,w15,w16,w17,w18,w19,hi,hr,qbQ,qkw,boC,Bo.c]
 simp only[qac]
 congr 1
end
section
open F
theorem qzu (s:Sc) {K:List Int} (hK:K.length=24) (hk:InK K) (h1:1<=s.p) (h3:s.p<=3) (bs:List Bo) (i:Nat) (hi:(i:Int)=qpP s K) :
  Z qab (.loop 0 F45l1 (sFr K i) [qbU,.tip 24,s.ob (.gsl (boC bs) i 9 3),.tip (i*9)])=some (.out (.exit 2) (sFr K i++[(101,.bool false)]) [qbU,.tip 24,s.ob (.gsl (boC bs) i 9 3),.tip (i*9)]):=by
 have gm : ∀ j,j<24->0<=getN K j/\getN K j<1000000:=fun j hj=>hk _ (qcN (by omega))
 have q3:=qbw (gm 3 (by omega)).1 (m:=3) (by omega)
 have r3:=qaL q3.1 (m:=3) (by omega)
 unfold qpP at hi
 have g3:=gm 3 (by omega)
 have c3:=qaB K 3 (by omega)
 generalize getN K 3=k3 at *
 have w1:=qaf (k3.tdiv 3) (by omega)
 have w2:=qaf (s.p+(k3.tdiv 3).tmod 3) (by omega)
 have s3:=qdA K 24 1 1 3 (by omega) (by omega)
 rw[show (3:Int).toNat=3 from rfl] at s3
 rw[qac]
 generalize boC bs=B at *
 simp[qad,qh6,sFr,qbU,Sc.ob,Wa,qa9,qaq,s3,c3,w1,w2,hi]
theorem qzv (s:Sc) {K:List Int} (hK:K.length=24) (hk:InK K) (h1:1<=s.p) (h3:s.p<=3) (m:Nat) : ∀ (bs:List Bo) (i:Nat),(i:Int)+m=qpP s K->bs.length=i->1<=i ->
  ∃ (bs':List Bo) (n:Nat),(n:Int)=qpP s K/\bs'.length=n /\
  Z qab (.loop 0 F45l1 (sFr K i) [qbU,.tip 24,s.ob (.gsl (boC bs) i 9 3),.tip (i*9)])=some (.out (.exit 2) (sFr K n++[(101,.bool false)]) [qbU,.tip 24,s.ob (.gsl (boC bs') n 9 3),.tip (n*9)]):=by
 induction m with
 |zero=>exact fun bs i hi hb h0=>⟨bs,i,by omega,hb,qzu s hK hk h1 h3 bs i (by omega)⟩
 |succ m ih=>
  intro bs i hi hb h0
  obtain⟨b,e⟩:=qzt s hK hk h1 h3 bs i (by omega) hb h0
  obtain⟨bs',n,e1,e2,e3⟩:=ih (bs++[b]) (i+1) (by omega) (by simp[hb]) (by omega)
  exact⟨bs',n,e1,e2,by rw[e]; exact e3⟩
theorem qAN (s:Sc) {K:List Int} (hK:K.length=24) (hk:InK K) (h1:1<=s.p) (h3:s.p<=3) :
  ∃ (bs':List Bo) (n:Nat),(n:Int)=qpP s K/\bs'.length=n /\
  Z qab (.loop 0 F45l1 (sFr K 0) [qbU,.tip 24,s.ob (.dat (.lit (.slice none 0 0)))])=some (.out (.exit 2) (sFr K n++[(101,.bool false)]) [qbU,.tip 24,s.ob (.gsl (boC bs') n 9 3),.tip (n*9)]):=by
 obtain⟨b,e⟩:=qxp s hK hk h1 h3
 have gm:0<=getN K 3:=(hk _ (qcN (by omega))).1
 have q3:=qbw gm (m:=3) (by omega)
 have r3:=qaL q3.1 (m:=3) (by omega)
 have hm:1<=qpP s K:=by unfold qpP; omega
 obtain⟨bs',n,e1,e2,e3⟩:=qzv s hK hk h1 h3 (qpP s K-1).toNat [b] 1 (by omega) rfl (by omega)
 exact⟨bs',n,e1,e2,by rw[e]; exact e3⟩
end
section
open F
theorem qoM(i:Nat)(h:i<3) : ∃ ds nd,qaj [D.sl [] 0 true,.sl [.lit (.int .i64 0),.lit (.int .i64 1)] 1 true,.sl [.lit (.int .i64 0),.lit (.int .i64 2),.lit (.int .i64 1),.lit (.int .i64 2)] 2 true] i 1=some [.sl ds nd true]:=by
 match i,h with
 |0,_=>exact⟨_,_,rfl⟩
 |1,_=>exact⟨_,_,rfl⟩
 |2,_=>exact⟨_,_,rfl⟩
theorem qqX(i:Int)(h0:0<=i)(h1:i<3)(cs:List D):qag 1 (.dat (.sl cs 3 true)) i=some (.dat (.imm cs i.toNat)):=by
 simp[qag,h0,h1]
set_option maxHeartbeats 2000000 in
theorem qtG{d:D}{xs:List Int}(hd:IsRow d xs)(hx : ∀ x∈xs,I64 x) : ∃ (s:Su) (bs:List Bo),s.ok/\s.bs=boC bs/\bs.length=s.nb/\Z qab (.call 45 [.dat d] [])=some (.ret s.d []):=by
 obtain⟨K,hK,hk,h1⟩:=qAe hd hx
 have gm : ∀ j,j<24->0<=getN K j/\getN K j<1000000:=fun j hj=>hk _ (qcN (by omega))
 have g0:=gm 0 (by omega)
 have g1:=gm 1 (by omega)
 have g2:=gm 2 (by omega)
 have g3:=gm 3 (by omega)
 have c0:=qaB K 0 (by omega)
 have c1:=qaB K 1 (by omega)
 have c2:=qaB K 2 (by omega)
 have c3:=qaB K 3 (by omega)
 have s0:=qdA K 24 1 1 0 (by omega) (by omega)
 have s1:=qdA K 24 1 1 1 (by omega) (by omega)
 have s2:=qdA K 24 1 1 2 (by omega) (by omega)
 have s3:=qdA K 24 1 1 3 (by omega) (by omega)
 rw[show (0:Int).toNat=0 from rfl] at s0
 rw[show (1:Int).toNat=1 from rfl] at s1
 rw[show (2:Int).toNat=2 from rfl] at s2
 rw[show (3:Int).toNat=3 from rfl] at s3
 have p0:=qaL g0.1 (m:=3) (by omega)
 have p3:=qaL g3.1 (m:=3) (by omega)
 have q3:=qbw g3.1 (m:=3) (by omega)
 have r3:=qaL q3.1 (m:=3) (by omega)
 obtain⟨ds,nd,hds⟩:=qoM ((getN K 3).tmod 3).toNat (by omega)
 have hda:=qqX ((getN K 3).tmod 3) p3.1 p3.2
 have w0:=qaf (1+(getN K 0).tmod 3) (by omega)
 obtain⟨bs,n,e1,e2,e3⟩:=qAN ⟨1+(getN K 0).tmod 3,ds,nd,wr (4000+wr ((getN K 1).tmod 9*1000)),wr (wr (-(wr ((getN K 2).tdiv 36)).tmod 3)*40),wr ((wr ((getN K 1).tdiv 9)).tmod 5*100),wr ((getN K 2).tmod 4*100),wr ((wr ((getN K 2).tdiv 4)).tmod 3*512),wr (1+(wr ((getN K 2).tdiv 12)).tmod 3)⟩ hK hk (by simp only; omega) (by simp only; omega)
 unfold qpP at e1
 simp only at e1
 refine⟨⟨(1+(getN K 0).tmod 3).toNat,n,boC bs,ds,nd,wr (4000+wr ((getN K 1).tmod 9*1000)),wr (wr (-(wr ((getN K 2).tdiv 36)).tmod 3)*40),wr ((wr ((getN K 1).tdiv 9)).tmod 5*100),wr ((getN K 2).tmod 4*100),wr ((wr ((getN K 2).tdiv 4)).tmod 3*512),wr (1+(wr ((getN K 2).tdiv 12)).tmod 3)⟩,bs,⟨by simp only; omega,by simp only; omega,by simp only; omega,by simp only; omega⟩,rfl,e2,?_⟩
 refine qaa (pf:=F45) rfl rfl ?_
 have hp:((1+(getN K 0).tmod 3).toNat:Int)=1+(getN K 0).tmod 3:=by omega
 simp only[Su.d,Su.c,hp]
 simp only[qp9,qbU] at h1
 simp only[sFr,qbU,Sc.ob,qmZ,iD] at e3
 generalize boC bs=B at *
 generalize getN K 0=k0 at *
 generalize getN K 1=k1 at *
 generalize getN K 2=k2 at *
 generalize getN K 3=k3 at *
 simp[F45,h1,Wa,qa9,qaq,s0,s1,s2,s3,c0,c1,c2,c3,w0,hds,hda,e3,iD,qmZ]
end
section
open F
def Low(w:List Int):Prop := ∀ j,j<48->getN w j=0
theorem qgy{w:List Int}(h:Low w)(i:Int)(v:Int)(hi:48<=i):Low (qaK w i v):=by
 intro j hj
 have:=h j hj
 simp only[getN,qaK,Wn] at this ⊢
 rw[Wt (by omega)]
 exact this
def qhk(s:Su):Ob := .cells (s.c.map .dat)
def iFr(N:Nat)(i:Int):Fr:=[(1,.ptr 0 0),(3,.msl 1 0 N N 1),(4,.int i)]
theorem qqZ(bs:List Bo)(i:Nat):(boC bs).drop (i*9)=boC (bs.drop i):=by
 induction i generalizing bs with
 |zero=>simp
 |succ i ih=>
  cases bs with
  |nil=>simp[boC]
  |cons b bs=>
   rw[show (i+1)*9=9+i*9 by omega,<- List.drop_drop]
   have:(boC (b::bs)).drop 9=boC bs:=rfl
   rw[this,ih bs]
   rfl
theorem qwt(bs:List Bo)(i:Nat)(h:i<bs.length):qaj (boC bs) (i*9) 9=some bs[i].c:=by
 unfold qaj
 rw[qqZ,WC h]
 have:boC (bs[i]::bs.drop (i+1))=bs[i].c++boC (bs.drop (i+1)):=rfl
 rw[this]
 rfl
theorem qyO (s:Su) (hs:s.ok) (bs:List Bo) (hb:s.bs=boC bs) (hl:bs.length=s.nb) (w:List Int) (hw:w.length=s.n) (hlow:Low w) (i:Nat) (hi:i<s.nb) :
  ∃ w',w'.length=s.n/\Low w'/\Z qab (.loop 0 F55l0 (iFr s.n i) [qhk s,.cells (qbz w)])=Z qab (.loop 0 F55l0 (iFr s.n (i+1:Nat)) [qhk s,.cells (qbz w')]):=by
 have hp:=hs.p3; have hq:=hs.b5
 have hN:s.n=48+4*s.p+8*s.nb:=rfl
 have hbody:=qpK s hs i
 have hB:bodyI s i=48+4*s.p+8*i:=by unfold bodyI; rw[if_neg (by omega)]
 rw[hB] at hbody
 have hcut:=qwt bs i (by omega)
 generalize bs[i]=b at hcut
 generalize hA:(48+4*(s.p:Int)+8*i)=A at *
 have hA0:48<=A:=by omega
 have hA1:A+8<=s.n:=by omega
 have hsz:s.n<1000:=by omega
 have t0:=qbH w (A).toNat b.x (by first|omega | (simp; omega))
 have y0:(A).toNat+1<=w.length:=by omega
 have z0:A<s.n:=by omega
 have v0:0<=A:=by omega
 have t1:=qbH (w.set (A).toNat b.x) ((A+1)).toNat b.y (by first|omega | (simp; omega))
 have x1:=qaf (A+1) (by omega)
 have y1:((A+1)).toNat+1<=w.length:=by omega
 have z1:(A+1)<s.n:=by omega
 have v1:0<=(A+1):=by omega
 have t2:=qbH ((w.set (A).toNat b.x).set ((A+1)).toNat b.y) ((A+2)).toNat b.vx (by first|omega | (simp; omega))
 have x2:=qaf (A+2) (by omega)
 have y2:((A+2)).toNat+1<=w.length:=by omega
 have z2:(A+2)<s.n:=by omega
 have v2:0<=(A+2):=by omega
 have t3:=qbH (((w.set (A).toNat b.x).set ((A+1)).toNat b.y).set ((A+2)).toNat b.vx) ((A+3)).toNat b.vy (by first|omega | (simp; omega))
 have x3:=qaf (A+3) (by omega)
 have y3:((A+3)).toNat+1<=w.length:=by omega
 have z3:(A+3)<s.n:=by omega
 have v3:0<=(A+3):=by omega
 have t4:=qbH ((((w.set (A).toNat b.x).set ((A+1)).toNat b.y).set ((A+2)).toNat b.vx).set ((A+3)).toNat b.vy) ((A+4)).toNat b.a (by first|omega | (simp; omega))
 have x4:=qaf (A+4) (by omega)
 have y4:((A+4)).toNat+1<=w.length:=by omega
 have z4:(A+4)<s.n:=by omega
 have v4:0<=(A+4):=by omega
 have t5:=qbH (((((w.set (A).toNat b.x).set ((A+1)).toNat b.y).set ((A+2)).toNat b.vx).set ((A+3)).toNat b.vy).set ((A+4)).toNat b.a) ((A+5)).toNat b.b (by first|omega | (simp; omega))
 have x5:=qaf (A+5) (by omega)
 have y5:((A+5)).toNat+1<=w.length:=by omega
 have z5:(A+5)<s.n:=by omega
 have v5:0<=(A+5):=by omega
 refine⟨((((((w.set (A).toNat b.x).set ((A+1)).toNat b.y).set ((A+2)).toNat b.vx).set ((A+3)).toNat b.vy).set ((A+4)).toNat b.a).set ((A+5)).toNat b.b),by simp[hw],?_,?_⟩
 ·have:=qgy (qgy (qgy (qgy (qgy (qgy hlow A b.x hA0) (A+1) b.y (by omega)) (A+2) b.vx (by omega)) (A+3) b.vy (by omega)) (A+4) b.a (by omega)) (A+5) b.b (by omega)
  exact this
 have w1:=qaf ((i:Int)+1) (by omega)
 have hi':(i:Int)<s.nb:=by omega
 rw[<- hb] at hcut
 simp only[Su.d,Su.c] at hbody
 rw[qac]
 simp[qad,qk7,iFr,qhk,Su.c,Wa,hbody,hcut,Bo.c,hi,hi',qag,w1,V.len,t0,t1,t2,t3,t4,t5,x1,x2,x3,x4,x5,y0,y1,y2,y3,y4,y5,z0,z1,z2,z3,z4,z5,v0,v1,v2,v3,v4,v5]
 simp only[qac]
 congr 1
 simp[Wa,V.cells]
theorem qyP(s:Su)(w:List Int)(N:Nat):Z qab (.loop 0 F55l0 (iFr N s.nb) [qhk s,.cells (qbz w)])=some (.out (.exit 0) (iFr N s.nb++[(14,.bool false)]) [qhk s,.cells (qbz w)]):=by
 rw[qac]
 simp[qad,qk7,iFr,qhk,Su.c,Wa,V.len]
theorem qyQ (s:Su) (hs:s.ok) (bs:List Bo) (hb:s.bs=boC bs) (hl:bs.length=s.nb) (m:Nat) : ∀ (w:List Int) (i:Nat),i+m=s.nb->w.length=s.n->Low w ->
  ∃ w',w'.length=s.n/\Low w'/\Z qab (.loop 0 F55l0 (iFr s.n i) [qhk s,.cells (qbz w)])=some (.out (.exit 0) (iFr s.n s.nb++[(14,.bool false)]) [qhk s,.cells (qbz w')]):=by
 induction m with
 |zero=>
  intro w i hi hw hlow
  have:i=s.nb:=by omega
  subst this
  exact⟨w,hw,hlow,qyP s w s.n⟩
 |succ m ih=>
  intro w i hi hw hlow
  obtain⟨w1,a1,a2,a3⟩:=qyO s hs bs hb hl w hw hlow i (by omega)
  obtain⟨w2,b1,b2,b3⟩:=ih w1 (i+1) (by omega) a1 a2
  exact⟨w2,b1,b2,by rw[a3]; exact b3⟩
end
end Go.Pm
