/- The abstract machine's program, printed by a program of our own: group 3q. The abstract machine's program, printed by a program of our own: group Law13. The abstract machine's programs: tables of functions. Equal, of the program and of the reference: equal but for marks. The abstract machine's programs: tables of functions. strconv: how many digits; the tables of two digits and of lengths, as parameters. -/
import Derived.Test.YtjdbkncfebebnaaGreatDoorPmYh
import Derived.Test.YtjdbkncfebebnaaGreatDoorPmF3
import Derived.Test.YtjdbkncfebebnaaGreatDoorPmFx
import Derived.Laws.BitsAllLaws
import Derived.Laws.Bits64
set_option linter.unusedSimpArgs false
set_option linter.unusedVariables false
section SF3q
namespace Go.Pm.F
variable (C:Task->Option Res) (q:Nat) (fr:Fr) (σ : S)
def F227:PFun:=⟨1,[.tmp 2],.seq (rn [jj 2 (.mov (.c (.string ⟨#[]⟩)))] [0]) (.seq (rn [mv 3 0,cl 4 123 [3],cl 5 236 [4],mv 2 5] [2]) (.ret)),false,false,false⟩
def F234:PFun:=⟨1,[.tmp 2],.seq (rn [bx 1 0,jj 2 (.mov (.c (.string ⟨#[]⟩)))] [1]) (.seq (rn [la 3 4 1,jj 4 (.call 246 [(.t 3),(kk 1),kF]),mv 2 4] [2]) (.ret)),false,false,false⟩
@[simp] def F236l0x:PC:=(.seq (.seq (rn [mv 5 4,bk 6 .lss 5 3] [1,3,4,6]) (.cond (.t 6) (.skip) (.exit 0))) (.seq (.block 1 (.seq (rn [mv 9 4,fa 10 0 1,jj 11 (.indexAddrA 3 4 (.t 10) (.t 9)),fa 12 0 11,l1 13 12,bk 14 .neq 13 0] [1,3,4,14]) (.cond (.t 14) (.region (some []) [mv 15 3,jj 16 (.call 152 []),mv 17 4,jj 18 (.indexAddr 1 (.t 16) (.t 17)),⟨some 19,.load false 1 (.t 18),none,[9]⟩,mv 20 4,fa 21 0 1,jj 22 (.indexAddrA 3 4 (.t 21) (.t 20)),⟨some 23,.load true 4 (.t 22),none,[1]⟩,cl 24 248 [23],jj 25 (.bslice 4 [eN,eN,eN,eN] [(0,1,(.t 15)),(1,1,(.c (.string ⟨#[111,110]⟩))),(2,1,(.t 19)),(3,1,(.t 24))]),cl 26 247 [25],mv 3 26] [1,3,4] [9,11]) (.skip)))) (rn [mv 7 4,bk 8 .add 7 1,mv 4 8] [1,3,4])))
def F236l0:PC:=F236l0x
theorem qgI:run C q F236l0 fr σ = run C q F236l0x fr σ := rfl
def F236:PFun:=⟨1,[.tmp 2],.seq (rn [bx 1 0,jj 2 (.mov (.c (.string ⟨#[]⟩)))] [1]) (.seq (rn [jj 3 (.mov (.c (.string ⟨#[]⟩)))] [1,3]) (.seq (.seq (rn [mx 4 (kk 0)] [1,3,4]) (.block 0 (.loop F236l0))) (.seq (rn [mv 27 3,mv 2 27] [2]) (.ret)))),false,false,false⟩
def F246:PFun:=⟨3,[.tmp 6],.seq (rn [bx 3 0,jj 6 (.mov (.c (.string ⟨#[]⟩)))] [1,2,3]) (.seq (rn [la 10 4 3,cl 11 261 [10],mv 7 11] [1,2,3,7]) (.seq (rn [fa 12 2 3,l1 13 12,mv 8 13] [1,2,3,7,8]) (.seq (.seq (rn [fa 14 0 3,l1 15 14,bk 16 .eql 15 8] [1,2,3,7,8,16]) (.cond (.t 16) (rn [fa 17 1 3,l1 18 17,cl 19 20 [18],mv 8 19] [1,2,3,7,8]) (.skip))) (.seq (.seq (rn [fa 20 0 3,l1 21 20,bk 22 .eql 21 9] [1,2,3,7,8,22]) (.cond (.t 22) (.seq (rn [jj 8 (.mov (.c (.string ⟨#[102,97,108,115,101]⟩)))] [1,2,3,7,8]) (.seq (rn [fa 23 1 3,l1 24 23,bk 25 .eql 24 1] [1,2,3,7,8,25]) (.cond (.t 25) (rn [jj 8 (.mov (.c (.string ⟨#[116,114,117,101]⟩)))] [1,2,3,7,8]) (.skip)))) (.skip))) (.seq (.seq (rn [fa 26 0 3,l1 27 26,bk 28 .eql 27 11] [1,2,3,7,8,28]) (.cond (.t 28) (.region (some []) [fa 29 2 3,⟨some 30,.load false 1 (.t 29),none,[7]⟩,fa 31 3 3,l1 32 31,jj 33 (.indexAddr 4 (.t 32) (kk 0)),la 34 4 33,mv 35 2,jj 36 (.call 246 [(.t 34),(kk 1),(.t 35)]),jj 37 (.bslice 4 [eN,eN,eN,eN] [(0,1,(.t 30)),(1,1,(.c (.string ⟨#[91]⟩))),(2,1,(.t 36)),(3,1,(.c (.string ⟨#[93]⟩)))]),cl 38 247 [37],mv 8 38] [1,2,3,7,8] [7,9]) (.skip))) (.seq (.seq (rn [fa 39 0 3,l1 40 39,bk 41 .eql 40 13] [1,2,3,7,8,41]) (.cond (.t 41) (.region (some []) [fa 42 2 3,⟨some 43,.load false 1 (.t 42),none,[8]⟩,fa 44 3 3,l1 45 44,jj 46 (.indexAddr 4 (.t 45) (kk 0)),la 47 4 46,mv 48 7,mv 49 2,cl 50 246 [47,48,49],jj 51 (.bslice 2 [eN,eN] [(0,1,(.t 43)),(1,1,(.t 50))]),cl 52 247 [51],mv 8 52] [1,2,3,7,8] [8,10]) (.skip))) (.seq (.seq (rn [fa 53 0 3,l1 54 53,bk 55 .eql 54 14] [1,2,3,7,8,55]) (.cond (.t 55) (.seq (rn [mv 56 7,mv 9 56] [1,2,3,7,9]) (.seq (.seq (rn [mv 57 7,bk 58 .eql 57 4] [1,2,3,7,9,58]) (.cond (.t 58) (rn [mx 9 (kk 5)] [1,2,3,7,9]) (.skip))) (.region (some []) [fa 59 3 3,l1 60 59,jj 61 (.indexAddr 4 (.t 60) (kk 0)),la 62 4 61,mv 63 9,mv 64 2,cl 65 246 [62,63,64],fa 66 2 3,⟨some 67,.load false 1 (.t 66),none,[6,16]⟩,fa 68 3 3,⟨some 69,.load false 1 (.t 68),none,[6]⟩,jj 70 (.indexAddr 4 (.t 69) (kk 1)),⟨some 71,.load true 4 (.t 70),none,[6]⟩,mv 72 7,bk 73 .add 72 1,mv 74 2,cl 75 246 [71,73,74],jj 76 (.bslice 3 [eN,eN,eN] [(0,1,(.t 65)),(1,1,(.t 67)),(2,1,(.t 75))]),cl 77 247 [76],mv 8 77] [1,2,7,8] [16,18]))) (.skip))) (.seq (.seq (rn [mv 78 7,mv 79 1,bn 80 .lss 78 79,mv 81 80,jf 82 81 (.mov (.t 2)),jf 83 81 (.mov (.t 82)),jt 84 83 (.mov (.t 7)),jt 85 83 (.bin .lss (.t 84) (kk 8)),jf 86 81 (.pick (.t 83) (.t 85) kF),jj 87 (.pick (.t 81) kT (.t 86))] [8,87]) (.cond (.t 87) (.seq (rn [mv 88 8,jj 89 (.bin .add (.c (.string ⟨#[40]⟩)) (.t 88)),jj 90 (.bin .add (.t 89) (.c (.string ⟨#[41]⟩))),mv 6 90] [6]) (.ret)) (.skip))) (.seq (rn [mv 91 8,mv 6 91] [6]) (.ret)))))))))),false,false,false⟩
@[simp] def F247l0x:PC:=(.seq (.seq (rn [mv 5 4,mv 6 0,ls 7 6,bn 8 .lss 5 7] [0,3,4,8]) (.cond (.t 8) (.skip) (.exit 0))) (.seq (.block 1 (rn [mv 11 3,mv 12 0,mv 13 4,jj 14 (.indexAddr 1 (.t 12) (.t 13)),l1 15 14,cl 16 262 [11,15],mv 3 16] [0,3,4])) (rn [mv 9 4,bk 10 .add 9 1,mv 4 10] [0,3,4])))
def F247l0:PC:=F247l0x
theorem qjq:run C q F247l0 fr σ = run C q F247l0x fr σ := rfl
def F247:PFun:=⟨1,[.tmp 2],.seq (rn [jj 2 (.mov (.c (.string ⟨#[]⟩)))] [0]) (.seq (rn [jj 3 (.mov (.c (.string ⟨#[]⟩)))] [0,3]) (.seq (.seq (rn [mx 4 (kk 0)] [0,3,4]) (.block 0 (.loop F247l0))) (.seq (rn [mv 17 3,mv 2 17] [2]) (.ret)))),false,false,false⟩
@[simp] def F248l0x:PC:=(.seq (.seq (rn [mv 5 4,fa 6 3 1,l1 7 6,ls 8 7,bn 9 .lss 5 8] [1,3,4,9]) (.cond (.t 9) (.skip) (.exit 0))) (.seq (.block 1 (rn [mv 12 3,fa 13 3 1,l1 14 13,mv 15 4,jj 16 (.indexAddr 4 (.t 14) (.t 15)),la 17 4 16,cl 18 263 [17],cl 19 262 [12,18],mv 3 19] [1,3,4])) (rn [mv 10 4,bk 11 .add 10 1,mv 4 11] [1,3,4])))
def F248l0:PC:=F248l0x
theorem qgJ:run C q F248l0 fr σ = run C q F248l0x fr σ := rfl
def F248:PFun:=⟨1,[.tmp 2],.seq (rn [bx 1 0,jj 2 (.mov (.c (.string ⟨#[]⟩)))] [1]) (.seq (rn [jj 3 (.mov (.c (.string ⟨#[123]⟩)))] [1,3]) (.seq (.seq (rn [mx 4 (kk 0)] [1,3,4]) (.block 0 (.loop F248l0))) (.seq (rn [mv 20 3,jj 21 (.bin .add (.t 20) (.c (.string ⟨#[125]⟩))),mv 2 21] [2]) (.ret)))),false,false,false⟩
def F261:PFun:=⟨1,[.tmp 2],.seq (rn [bx 1 0,mx 2 (kk 0)] [1]) (.seq (.seq (rn [fa 3 0 1,l1 4 3,bk 5 .eql 4 13] [1,5]) (.cond (.t 5) (.seq (.seq (rn [fa 6 2 1,l1 7 6,jj 8 (.bin .eql (.t 7) (.c (.string ⟨#[33]⟩)))] [8]) (.cond (.t 8) (.seq (rn [mx 2 (kk 3)] [2]) (.ret)) (.skip))) (.seq (rn [mx 2 (kk 7)] [2]) (.ret))) (.skip))) (.seq (.seq (rn [fa 9 0 1,l1 10 9,bk 11 .neq 10 14] [1,11]) (.cond (.t 11) (.seq (rn [mx 2 (kk 8)] [2]) (.ret)) (.skip))) (.seq (.seq (rn [fa 12 2 1,l1 13 12,jj 14 (.bin .eql (.t 13) (.c (.string ⟨#[124,124]⟩)))] [1,14]) (.cond (.t 14) (.seq (rn [mx 2 (kk 1)] [2]) (.ret)) (.skip))) (.seq (.seq (rn [fa 15 2 1,l1 16 15,jj 17 (.bin .eql (.t 16) (.c (.string ⟨#[38,38]⟩)))] [1,17]) (.cond (.t 17) (.seq (rn [mx 2 (kk 2)] [2]) (.ret)) (.skip))) (.seq (.seq (rn [fa 18 2 1,l1 19 18,jj 20 (.bin .eql (.t 19) (.c (.string ⟨#[43]⟩))),mv 21 20,jf 22 21 (.fieldAddr 2 (.t 1)),jf 23 21 (.load false 1 (.t 22)),jf 24 21 (.bin .eql (.t 23) (.c (.string ⟨#[45]⟩))),jj 25 (.pick (.t 21) kT (.t 24))] [1,25]) (.cond (.t 25) (.seq (rn [mx 2 (kk 5)] [2]) (.ret)) (.skip))) (.seq (.seq (rn [fa 26 2 1,l1 27 26,jj 28 (.bin .eql (.t 27) (.c (.string ⟨#[42]⟩))),mv 29 28,jf 30 29 (.fieldAddr 2 (.t 1)),jf 31 29 (.load false 1 (.t 30)),jf 32 29 (.bin .eql (.t 31) (.c (.string ⟨#[47]⟩))),jj 33 (.pick (.t 29) kT (.t 32))] [33]) (.cond (.t 33) (.seq (rn [mx 2 (kk 6)] [2]) (.ret)) (.skip))) (.seq (rn [mx 2 (kk 4)] [2]) (.ret)))))))),false,false,false⟩
def F262:PFun:=⟨2,[.tmp 4],.seq (rn [jj 4 (.mov (.c (.string ⟨#[]⟩)))] [0,1]) (.seq (.seq (rn [mv 7 0,jj 8 (.bin .neq (.t 7) (.c (.string ⟨#[]⟩))),mv 9 8,jt 10 9 (.mov (.t 1)),jt 11 9 (.bin .neq (.t 10) (.c (.string ⟨#[]⟩))),jj 12 (.pick (.t 9) (.t 11) kF)] [0,1,12]) (.cond (.t 12) (.seq (rn [mv 13 0,mv 14 0,lz 15 14,bk 16 .sub 15 1,jj 17 (.indexS (.t 13) (.t 16)),mv 5 17] [0,1,5]) (.seq (rn [mv 18 1,jj 19 (.indexS (.t 18) (kk 0)),mv 6 19] [0,1,5,6]) (.seq (rn [mv 20 5,cl 21 192 [20],mv 22 21,jf 23 22 (.mov (.t 5)),jf 24 22 (.call 193 [(.t 23)]),jj 25 (.pick (.t 22) kT (.t 24)),mv 26 25,jt 27 26 (.mov (.t 6)),jt 28 26 (.call 192 [(.t 27)]),jt 29 26 (.mov (.t 28)),jf 30 29 (.mov (.t 6)),jf 31 29 (.call 193 [(.t 30)]),jt 32 26 (.pick (.t 29) kT (.t 31)),jj 33 (.pick (.t 26) (.t 32) kF)] [0,1,33]) (.cond (.t 33) (.seq (rn [mv 34 0,jj 35 (.bin .add (.t 34) (.c (.string ⟨#[32]⟩))),mv 36 1,bn 37 .add 35 36,mv 4 37] [4]) (.ret)) (.skip))))) (.skip))) (.seq (rn [mv 38 0,mv 39 1,bn 40 .add 38 39,mv 4 40] [4]) (.ret))),false,false,false⟩
def F263:PFun:=⟨1,[.tmp 2],.seq (rn [bx 1 0,jj 2 (.mov (.c (.string ⟨#[]⟩)))] [1]) (.seq (.seq (rn [fa 4 0 1,l1 5 4] [1,5]) (.block 0 (.seq (rn [bk 7 .eql 5 1,mv 6 7] [1,5,6]) (.cond (.t 6) (.seq (.region (some []) [fa 8 2 1,⟨some 9,.load false 1 (.t 8),none,[6]⟩,fa 10 3 1,l1 11 10,jj 12 (.indexAddr 4 (.t 11) (kk 0)),la 13 4 12,cl 14 234 [13],jj 15 (.bslice 4 [eN,eN,eN,eN] [(0,1,(.t 9)),(1,1,(.c (.string ⟨#[61]⟩))),(2,1,(.t 14)),(3,1,(.c (.string ⟨#[59]⟩)))]),cl 16 247 [15],mv 2 16] [2] [6,8]) (.ret)) (.seq (rn [bk 18 .eql 5 2,mv 17 18] [1,5,17]) (.cond (.t 17) (.seq (.region (some []) [fa 19 2 1,⟨some 20,.load false 1 (.t 19),none,[6,11]⟩,fa 21 3 1,l1 22 21,jj 23 (.indexAddr 4 (.t 22) (kk 0)),la 24 4 23,cl 25 234 [24],fa 26 3 1,⟨some 27,.load false 1 (.t 26),none,[6]⟩,jj 28 (.indexAddr 4 (.t 27) (kk 1)),⟨some 29,.load true 4 (.t 28),none,[6]⟩,cl 30 234 [29],jj 31 (.bslice 7 [eN,eN,eN,eN,eN,eN,eN] [(0,1,(.t 20)),(1,1,(.c (.string ⟨#[91]⟩))),(2,1,(.t 25)),(3,1,(.c (.string ⟨#[93]⟩))),(4,1,(.c (.string ⟨#[61]⟩))),(5,1,(.t 30)),(6,1,(.c (.string ⟨#[59]⟩)))]),cl 32 247 [31],mv 2 32] [2] [11,13]) (.ret)) (.seq (rn [bk 34 .eql 5 5,mv 33 34] [1,5,33]) (.cond (.t 33) (.seq (.region (some []) [fa 35 3 1,l1 36 35,jj 37 (.indexAddr 4 (.t 36) (kk 0)),la 38 4 37,cl 39 234 [38],fa 40 3 1,⟨some 41,.load false 1 (.t 40),none,[4]⟩,jj 42 (.indexAddr 4 (.t 41) (kk 1)),⟨some 43,.load true 4 (.t 42),none,[4]⟩,cl 44 234 [43],jj 45 (.bslice 5 [eN,eN,eN,eN,eN] [(0,1,(.c (.string ⟨#[101,102,102,101,99,116]⟩))),(1,1,(.t 39)),(2,1,(.c (.string ⟨#[44]⟩))),(3,1,(.t 44)),(4,1,(.c (.string ⟨#[59]⟩)))]),cl 46 247 [45],mv 2 46] [2] [9,11]) (.ret)) (.seq (rn [bk 48 .eql 5 6,mv 47 48] [1,5,47]) (.cond (.t 47) (.seq (rn [jj 2 (.mov (.c (.string ⟨#[115,116,111,112,59]⟩)))] [2]) (.ret)) (.seq (rn [bk 50 .eql 5 4,mv 49 50] [1,49]) (.cond (.t 49) (.seq (.region (some []) [fa 51 3 1,l1 52 51,jj 53 (.indexAddr 4 (.t 52) (kk 0)),la 54 4 53,cl 55 234 [54],fa 56 3 1,⟨some 57,.load false 1 (.t 56),none,[4]⟩,jj 58 (.indexAddr 4 (.t 57) (kk 1)),⟨some 59,.load true 4 (.t 58),none,[4]⟩,cl 60 248 [59],jj 61 (.bslice 3 [eN,eN,eN] [(0,1,(.c (.string ⟨#[119,104,105,108,101]⟩))),(1,1,(.t 55)),(2,1,(.t 60))]),cl 62 247 [61],mv 2 62] [2] [9,11]) (.ret)) (.skip))))))))))))) (.seq (.region (some []) [fa 63 3 1,l1 64 63,jj 65 (.indexAddr 4 (.t 64) (kk 0)),la 66 4 65,cl 67 234 [66],fa 68 3 1,⟨some 69,.load false 1 (.t 68),none,[4]⟩,jj 70 (.indexAddr 4 (.t 69) (kk 1)),⟨some 71,.load true 4 (.t 70),none,[4]⟩,cl 72 248 [71],jj 73 (.bslice 3 [eN,eN,eN] [(0,1,(.c (.string ⟨#[105,102]⟩))),(1,1,(.t 67)),(2,1,(.t 72))]),cl 74 247 [73],mv 3 74] [1,3] [9,11]) (.seq (.seq (rn [fa 75 3 1,l1 76 75,jj 77 (.indexAddr 4 (.t 76) (kk 2)),fa 78 3 77,l1 79 78,ls 80 79,bk 81 .gtr 80 0] [1,3,81]) (.cond (.t 81) (rn [mv 82 3,fa 83 3 1,l1 84 83,jj 85 (.indexAddr 4 (.t 84) (kk 2)),la 86 4 85,cl 87 248 [86],jj 88 (.bslice 3 [eN,eN,eN] [(0,1,(.t 82)),(1,1,(.c (.string ⟨#[101,108,115,101]⟩))),(2,1,(.t 87))]),cl 89 247 [88],mv 3 89] [3]) (.skip))) (.seq (rn [mv 90 3,mv 2 90] [2]) (.ret))))),false,false,false⟩
@[simp] def F314l0x:PC:=(.seq (.seq (rn [mv 11 7,mv 12 5,ls 13 12,bn 14 .lss 11 13] [1,5,6,7,14]) (.cond (.t 14) (.skip) (.exit 0))) (.seq (.block 1 (.seq (rn [mx 8 (kk 0)] [1,5,6,7,8]) (.seq (.seq (rn [mv 17 7,mv 18 1,ls 19 18,bn 20 .lss 17 19] [1,5,6,7,8,20]) (.cond (.t 20) (rn [mv 21 1,mv 22 7,jj 23 (.indexAddr 1 (.t 21) (.t 22)),l1 24 23,jj 25 (.call 17 [(.t 24),(kk 6)]),mv 8 25] [1,5,6,7,8]) (.skip))) (.region (some []) [mv 26 6,jj 27 (.bslice 6 [eN,eN,eN,eN,eN,eN] [(0,1,(.c (.string ⟨#[32]⟩))),(1,1,(.c (.string ⟨#[10]⟩))),(2,1,(.c (.string ⟨#[32,32,9]⟩))),(3,1,(.c (.string ⟨#[35,97,123,10]⟩))),(4,1,(.c (.string ⟨#[10,35,32,111,110,10,32]⟩))),(5,1,(.c (.string ⟨#[32]⟩)))]),mv 28 8,jj 29 (.indexAddr 1 (.t 27) (.t 28)),l1 30 29,bn 31 .add 26 30,mv 32 5,mv 33 7,jj 34 (.indexAddr 3 (.t 32) (.t 33)),fa 35 1 34,l1 36 35,bn 37 .add 31 36,mv 6 37] [1,5,6,7])))) (rn [mv 15 7,bk 16 .add 15 1,mv 7 16] [1,5,6,7])))
def F314l0:PC:=F314l0x
theorem qgK:run C q F314l0 fr σ = run C q F314l0x fr σ := rfl
def F314:PFun:=⟨2,[.tmp 4],.seq (rn [jj 4 (.mov (.c (.string ⟨#[]⟩)))] [0,1]) (.seq (rn [mv 9 0,cl 10 149 [9],mv 5 10] [1,5]) (.seq (rn [jj 6 (.mov (.c (.string ⟨#[]⟩)))] [1,5,6]) (.seq (.seq (rn [mx 7 (kk 0)] [1,5,6,7]) (.block 0 (.loop F314l0))) (.seq (rn [mv 38 6,mv 4 38] [4]) (.ret))))),false,false,false⟩
end Go.Pm.F
end SF3q
section SFLaw13
namespace Go.Pm.F
variable (C:Task->Option Res) (q:Nat) (fr:Fr) (σ : S)
def F229:PFun:=⟨0,[.tmp 0],.seq (rn [mx 0 kF] []) (.seq (rn [jj 8 (.call 228 [(.c (.string ⟨#[111,110,32,116,105,99,107,123,120,91,48,93,61,49,43,50,42,118,59,125]⟩))]),mv 7 8,ex 9 7 0,ex 10 7 1,ex 11 7 2,jj 1 (.alloc [zN,zN,eN,sN,zN,zN,eN,sN,zN,zN,eN,sN]),st 12 1 9,mv 2 10,mv 3 11] [1,2,3]) (.seq (rn [jj 13 (.call 228 [(.c (.string ⟨#[111,110,32,97,99,116,32,123,32,115,116,111,112,32,125]⟩))]),mv 12 13,ex 14 12 0,ex 15 12 1,ex 16 12 2,jj 4 (.alloc [zN,zN,eN,sN,zN,zN,eN,sN,zN,zN,eN,sN]),st 12 4 14,mv 5 15,mv 6 16] [1,2,3,5,6]) (.seq (.seq (rn [fa 17 0 1,jj 18 (.indexAddrA 3 4 (.t 17) (kk 1)),fa 19 3 18,l1 20 19,ls 21 20,bk 22 .neq 21 1] [1,2,3,5,6,22]) (.cond (.t 22) (.seq (rn [mx 0 kF] [0]) (.ret)) (.skip))) (.seq (rn [mv 23 2,bk 24 .eql 23 0,mv 25 24,jt 26 25 (.mov (.t 3)),jt 27 25 (.bin .eql (.t 26) (kk 0)),jj 28 (.pick (.t 25) (.t 27) kF),mv 29 28,jt 30 29 (.fieldAddr 0 (.t 1)),jt 31 29 (.indexAddrA 3 4 (.t 30) (kk 1)),jt 32 29 (.fieldAddr 3 (.t 31)),jt 33 29 (.load false 1 (.t 32)),jt 34 29 (.indexAddr 4 (.t 33) (kk 0)),jt 35 29 (.fieldAddr 0 (.t 34)),jt 36 29 (.load false 1 (.t 35)),jt 37 29 (.bin .eql (.t 36) (kk 2)),jj 38 (.pick (.t 29) (.t 37) kF),mv 39 38,jt 40 39 (.load true 12 (.t 1)),jt 41 39 (.call 231 [(.t 40)]),jt 42 39 (.bin .eql (.t 41) (.c (.string ⟨#[111,110,32,116,105,99,107,123,120,91,48,93,61,49,43,50,42,118,59,125]⟩))),jj 43 (.pick (.t 39) (.t 42) kF),mv 44 43,jt 45 44 (.mov (.t 5)),jt 46 44 (.bin .eql (.t 45) (kk 14)),jj 47 (.pick (.t 44) (.t 46) kF),mv 48 47,jt 49 48 (.mov (.t 6)),jt 50 48 (.bin .eql (.t 49) (kk 12)),jj 51 (.pick (.t 48) (.t 50) kF),mv 0 51] [0]) (.ret))))),false,false,false⟩
def F232:PFun:=⟨2,[.tmp 4],.seq (rn [bx 2 0,bx 3 1,mx 4 kF] [2,3]) (.seq (rn [fa 5 0 2,jj 6 (.indexAddrA 3 4 (.t 5) (kk 0)),la 7 4 6,fa 8 0 3,jj 9 (.indexAddrA 3 4 (.t 8) (kk 0)),la 10 4 9,cl 11 235 [7,10],mv 12 11,jt 13 12 (.fieldAddr 0 (.t 2)),jt 14 12 (.indexAddrA 3 4 (.t 13) (kk 1)),jt 15 12 (.load true 4 (.t 14)),jt 16 12 (.fieldAddr 0 (.t 3)),jt 17 12 (.indexAddrA 3 4 (.t 16) (kk 1)),jt 18 12 (.load true 4 (.t 17)),jt 19 12 (.call 235 [(.t 15),(.t 18)]),jj 20 (.pick (.t 12) (.t 19) kF),mv 21 20,jt 22 21 (.fieldAddr 0 (.t 2)),jt 23 21 (.indexAddrA 3 4 (.t 22) (kk 2)),jt 24 21 (.load true 4 (.t 23)),jt 25 21 (.fieldAddr 0 (.t 3)),jt 26 21 (.indexAddrA 3 4 (.t 25) (kk 2)),jt 27 21 (.load true 4 (.t 26)),jt 28 21 (.call 235 [(.t 24),(.t 27)]),jj 29 (.pick (.t 21) (.t 28) kF),mv 4 29] [4]) (.ret)),false,false,false⟩
def F311:PFun:=⟨2,[.tmp 4],.seq (rn [mx 4 kF] [0,1]) (.seq (rn [mv 13 0,cl 14 227 [13],mv 5 14] [1,5]) (.seq (rn [mv 15 5,mv 16 1,cl 17 314 [15,16],mv 6 17] [5,6]) (.seq (rn [mv 19 5,cl 20 228 [19],mv 18 20,ex 21 18 0,ex 22 18 1,ex 23 18 2,jj 7 (.alloc [zN,zN,eN,sN,zN,zN,eN,sN,zN,zN,eN,sN]),st 12 7 21,mv 8 22,mv 9 23] [5,6,7,9]) (.seq (.seq (rn [mv 24 9,bk 25 .neq 24 0] [5,6,7,25]) (.cond (.t 25) (.seq (rn [mx 4 kF] [4]) (.ret)) (.skip))) (.seq (.seq (rn [mv 26 6,lz 27 26,bk 28 .gtr 27 2000] [5,6,7,28]) (.cond (.t 28) (.seq (rn [jj 29 (.call 229 []),mv 4 29] [4]) (.ret)) (.skip))) (.seq (rn [mv 31 6,cl 32 228 [31],mv 30 32,ex 33 30 0,ex 34 30 1,ex 35 30 2,jj 10 (.alloc [zN,zN,eN,sN,zN,zN,eN,sN,zN,zN,eN,sN]),st 12 10 33,mv 11 34,mv 12 35] [5,7,10,12]) (.seq (rn [mv 36 12,bk 37 .eql 36 0,mv 38 37,jt 39 38 (.load true 12 (.t 7)),jt 40 38 (.load true 12 (.t 10)),jt 41 38 (.call 232 [(.t 39),(.t 40)]),jj 42 (.pick (.t 38) (.t 41) kF),mv 43 42,jt 44 43 (.load true 12 (.t 10)),jt 45 43 (.call 231 [(.t 44)]),jt 46 43 (.mov (.t 5)),jt 47 43 (.bin .eql (.t 45) (.t 46)),jj 48 (.pick (.t 43) (.t 47) kF),mv 49 48,jt 50 49 (.call 229 []),jj 51 (.pick (.t 49) (.t 50) kF),mv 4 51] [4]) (.ret)))))))),false,false,false⟩
end Go.Pm.F
end SFLaw13
section STE
namespace Go.Pm.F
def tE:Nat->Option PFun
 | 232=>some F232
 | 235=>some F235
 | _=>none
def tEz:Nat->Option PFun
 | 232=>some F232
 | 235=>some F235
 | _=>none
theorem qnS : ∀ f pf,tE f=some pf->tEz f=some pf:=fun f pf h=>by
 unfold tE at h
 split at h<;>first | (cases h; rfl) | cases h
end Go.Pm.F
end STE
section SUb
namespace Go.Pm
open F
set_option maxHeartbeats 4000000
abbrev quW (k n:Int) (s:ByteArray) (d:D) (k' n':Int) (s':ByteArray) (d':D):S:=[.cells [.int k,.int n,.str s,.dat d],.cells [.int k',.int n',.str s',.dat d']]
def ndEq (k n:Int) (s:ByteArray) (a:Fo) (k' n':Int) (s':ByteArray) (b:Fo):Bool:=(decide (k=k')&&(decide (n=n')&&decide (s=s')))&&a.eqv b
def qya (a b:Fo):Prop := ∀ (k n:Int) (s:ByteArray) (f:Bool) (k' n':Int) (s':ByteArray) (f':Bool),Z tE (.call 235 [nd k n s f a,nd k' n' s' f' b] [])=some (.ret (.bool (ndEq k n s a k' n' s' b)) [])
def qyb (a:Fo):Prop := ∀ (b:Fo) (ca cb:List D) (m i:Nat) (k n:Int) (s:ByteArray) (f:Bool) (k' n':Int) (s':ByteArray) (f':Bool),ca.drop (i*4)=a.cells->cb.drop (i*4)=b.cells->a.len=b.len->i+a.len=m->m<2 ^ 30 ->
 Z tE (.loop 0 F235l0 [(2,.ptr 0 0),(3,.ptr 1 0),(36,.int m),(37,.int i)] (quW k n s (.sl ca m f) k' n' s' (.sl cb m f')))=some (if a.eqv b then .out (.exit 0) [(2,.ptr 0 0),(3,.ptr 1 0),(36,.int m),(37,.int m),(38,.bool false)] (quW k n s (.sl ca m f) k' n' s' (.sl cb m f')) else .out .ret [(4,.bool false)] (quW k n s (.sl ca m f) k' n' s' (.sl cb m f')))
theorem qrS {a:Fo} (hq:qyb a) (ha:a.len<2 ^ 30) (b:Fo):qya a b:=by
 intro k n s f k' n' s' f'
 refine Z_call (pf:=F235) rfl rfl ?_
 unfold ndEq
 by_cases h1:k=k'
 ·by_cases h2:n=n'
  ·by_cases h3:s=s'
   ·subst h1 h2 h3
    by_cases h4:a.len=b.len
    ·cases hl:a.len with
     | zero=>
      have hb:b.len=0:=by omega
      have e:a.eqv b=true:=by
       cases a with
       | nil=>cases b with | nil=>rfl | cons=>simp at hb
       | cons=>simp at hl
      have z0:Z tE (.loop 0 F235l0 [(2,.ptr 0 0),(3,.ptr 1 0),(36,.int 0),(37,.int 0)] (quW k n s (.lit (.slice none 0 0)) k n s (.lit (.slice none 0 0))))=some (.out (.exit 0) [(2,.ptr 0 0),(3,.ptr 1 0),(36,.int 0),(37,.int 0),(38,.bool false)] (quW k n s (.lit (.slice none 0 0)) k n s (.lit (.slice none 0 0)))):=by
       rw[qaa]
       simp -implicitDefEqProofs [qac,qe4,qic,List.range_succ]
      have hh:nd k n s f a = .dat (.agg [.lit (.int .i64 k),.lit (.int .i64 n),.lit (.string s),.lit (.slice none 0 0)]):=by rw[nd,hl,qv2]
      have hh':nd k n s f' b = .dat (.agg [.lit (.int .i64 k),.lit (.int .i64 n),.lit (.string s),.lit (.slice none 0 0)]):=by rw[nd,hb,qv2]
      rw[hh,hh']
      simp -implicitDefEqProofs [F235,z0,e,qaX,qic,List.range_succ]
     | succ q=>
      have z:=hq b a.cells b.cells a.len 0 k n s f k n s f' (by simp) (by simp) h4 (by omega) ha
      have hb:b.len=a.len:=h4.symm
      have ka : ∀ g cs,kd g (q+1) cs = .sl cs (q+1) g:=fun g cs=>rfl
      have hh : ∀ g (c:Fo),c.len=q+1->nd k n s g c = .dat (.agg [.lit (.int .i64 k),.lit (.int .i64 n),.lit (.string s),.sl c.cells (q+1) g]):=fun g c hc=>by rw[nd,hc,ka]
      rw[hh f a hl,hh f' b (hb.trans hl)]
      rw[hl] at z
      clear hh ka hq hb hl h4 ha
      generalize q+1=m at *
      simp only[Int.cast_ofNat_Int] at z
      by_cases he:a.eqv b=true
      ·rw[if_pos he] at z
       simp -implicitDefEqProofs [F235,z,he,qaX,qg7,List.range_succ]
      ·rw[if_neg he] at z
       simp -implicitDefEqProofs [F235,z,he,qaX,qg7,List.range_succ]
    ·have he:a.eqv b=false:=by
      cases h:a.eqv b with
      | false=>rfl
      | true=>exact absurd (qp5 h) h4
     have h4' : ¬ (a.len:Int)=b.len:=by omega
     simp -implicitDefEqProofs [F235,h4,h4',he,qaX,List.range_succ]
   ·simp -implicitDefEqProofs [F235,h1,h2,h3,qaX,List.range_succ]
  ·simp -implicitDefEqProofs [F235,h1,h2,qaX,List.range_succ]
 ·simp -implicitDefEqProofs [F235,h1,qaX,List.range_succ]
theorem qlX : ∀ a:Fo,a.size<2 ^ 30->qyb a
 | .nil,_=>by
  intro b ca cb m i k n s f k' n' s' f' hA hB hl hm hm2
  cases b with
  | cons=>simp at hl
  | nil=>
   have:i=m:=by simpa using hm
   subst this
   rw[show Fo.nil.eqv .nil=true from rfl,if_pos rfl,qaa]
   simp -implicitDefEqProofs [qac,qe4,qg7,List.range_succ]
 | .cons ka na sa fa ksa ra,hsz=>by
  intro b ca cb m i k n s f k' n' s' f' hA hB hl hm hm2
  cases b with
  | nil=>simp at hl
  | cons kb nb sb fb ksb rb=>
   simp only[qbp] at hsz
   have hks:=qrS (qlX ksa (by omega)) (by have:=qii ksa; omega) ksb ka na sa fa kb nb sb fb
   simp only[qaC,qaV] at hA hB hl hm
   have c1:=qwJ hA
   have c2:=qwJ hB
   have hlt:(i:Int)<m:=by omega
   have hlt':i<m:=by omega
   have w1:IntKind.i64.wrap ((i:Int)+1)=((i+1:Nat):Int):=by rw[qaf _ (by omega)]; omega
   have ih:=qlX ra (by omega) rb ca cb m (i+1) k n s f k' n' s' f' (qcp hA) (qcp hB) (by omega) (by omega) hm2
   rw[show (Fo.cons ka na sa fa ksa ra).eqv (.cons kb nb sb fb ksb rb)=(ndEq ka na sa ksa kb nb sb ksb&&ra.eqv rb) by simp[Fo.eqv,ndEq,Bool.and_assoc]]
   simp only[nd] at hks
   generalize ndEq ka na sa ksa kb nb sb ksb=B at *
   generalize ((i+1:Nat):Int)=i1 at *
   cases B with
   | true=>
    rw[Bool.true_and,<- ih]
    conv=>lhs; rw[qaa]
    simp -implicitDefEqProofs [qac,qe4,qah,qg7,c1,c2,hlt,hlt',hks,w1,List.range_succ]
   | false=>
    rw[Bool.false_and,if_neg (by simp)]
    rw[qaa]
    simp -implicitDefEqProofs [qac,qe4,qah,qg7,c1,c2,hlt,hlt',hks,List.range_succ]
theorem qjU {a b:Fo} (ha:a.size<2 ^ 30):qya a b:=qrS (qlX a ha) (by have:=qii a; omega) b
theorem qqt {a b c a' b' c':Nd} (ha:a.ks.size<2 ^ 30) (hb:b.ks.size<2 ^ 30) (hc:c.ks.size<2 ^ 30):Z tE (.call 232 [.dat (ru a b c),.dat (ru a' b' c')] []) =
  some (.ret (.bool (ndEq a.k a.n a.s a.ks a'.k a'.n a'.s a'.ks&&(ndEq b.k b.n b.s b.ks b'.k b'.n b'.s b'.ks&&ndEq c.k c.n c.s c.ks c'.k c'.n c'.s c'.ks))) []):=by
 have z1:=qjU ha (b:=a'.ks) a.k a.n a.s a.f a'.k a'.n a'.s a'.f
 have z2:=qjU hb (b:=b'.ks) b.k b.n b.s b.f b'.k b'.n b'.s b'.f
 have z3:=qjU hc (b:=c'.ks) c.k c.n c.s c.f c'.k c'.n c'.s c'.f
 refine Z_call (pf:=F232) rfl rfl ?_
 simp only[nd] at z1 z2 z3
 generalize ndEq a.k a.n a.s a.ks a'.k a'.n a'.s a'.ks=B1 at *
 generalize ndEq b.k b.n b.s b.ks b'.k b'.n b'.s b'.ks=B2 at *
 generalize ndEq c.k c.n c.s c.ks c'.k c'.n c'.s c'.ks=B3 at *
 cases B1<;>cases B2<;>cases B3<;>simp -implicitDefEqProofs [F232,ru,Nd.d,z1,z2,z3,List.range_succ]
end Go.Pm
end SUb
section STK
namespace Go.Pm.F
def tK:Nat->Option PFun
 | 227=>some F227
 | 229=>some F229
 | _=>none
def tKd:Nat->Option PFun
 | _=>none
def tKz:Nat->Option PFun
 | 311=>some F311
 | 314=>some F314
 | _=>none
end Go.Pm.F
end STK
section SOd
namespace Go.Pm
open F
set_option maxHeartbeats 4000000
def tab2:ByteArray:=⟨#[48,48,48,49,48,50,48,51,48,52,48,53,48,54,48,55,48,56,48,57,49,48,49,49,49,50,49,51,49,52,49,53,49,54,49,55,49,56,49,57,50,48,50,49,50,50,50,51,50,52,50,53,50,54,50,55,50,56,50,57,51,48,51,49,51,50,51,51,51,52,51,53,51,54,51,55,51,56,51,57,52,48,52,49,52,50,52,51,52,52,52,53,52,54,52,55,52,56,52,57,53,48,53,49,53,50,53,51,53,52,53,53,53,54,53,55,53,56,53,57,54,48,54,49,54,50,54,51,54,52,54,53,54,54,54,55,54,56,54,57,55,48,55,49,55,50,55,51,55,52,55,53,55,54,55,55,55,56,55,57,56,48,56,49,56,50,56,51,56,52,56,53,56,54,56,55,56,56,56,57,57,48,57,49,57,50,57,51,57,52,57,53,57,54,57,55,57,56,57,57]⟩
def tab8:ByteArray:=⟨#[0,1,2,2,3,3,3,3,4,4,4,4,4,4,4,4,5,5,5,5,5,5,5,5,5,5,5,5,5,5,5,5,6,6,6,6,6,6,6,6,6,6,6,6,6,6,6,6,6,6,6,6,6,6,6,6,6,6,6,6,6,6,6,6,7,7,7,7,7,7,7,7,7,7,7,7,7,7,7,7,7,7,7,7,7,7,7,7,7,7,7,7,7,7,7,7,7,7,7,7,7,7,7,7,7,7,7,7,7,7,7,7,7,7,7,7,7,7,7,7,7,7,7,7,7,7,7,7,8,8,8,8,8,8,8,8,8,8,8,8,8,8,8,8,8,8,8,8,8,8,8,8,8,8,8,8,8,8,8,8,8,8,8,8,8,8,8,8,8,8,8,8,8,8,8,8,8,8,8,8,8,8,8,8,8,8,8,8,8,8,8,8,8,8,8,8,8,8,8,8,8,8,8,8,8,8,8,8,8,8,8,8,8,8,8,8,8,8,8,8,8,8,8,8,8,8,8,8,8,8,8,8,8,8,8,8,8,8,8,8,8,8,8,8,8,8,8,8,8,8,8,8,8,8,8,8]⟩
section
variable (tab:ByteArray)
def F295l0Kx:PC:=(.seq (.seq (rn [mv 19 4,bk 20 .geq 19 8] [0,1,4,20]) (.cond (.t 20) (.skip) (.exit 0))) (.block 1 (.seq (rn [mv 21 1,jj 22 (.bin .rem (.t 21) (.c (.int .u64 100000000))),jj 23 (.conv (.int .u32) (.t 22)),mv 5 23] [0,1,4,5]) (.seq (rn [mv 24 1,jj 25 (.bin .quo (.t 24) (.c (.int .u64 100000000))),mv 1 25] [0,1,4,5]) (.seq (rn [mv 26 5,jj 27 (.bin .quo (.t 26) (.c (.int .u32 10000))),mv 28 5,jj 29 (.bin .rem (.t 28) (.c (.int .u32 10000))),mv 6 27,mv 7 29] [0,1,4,6,7]) (.seq (rn [mv 30 7,jj 31 (.bin .quo (.t 30) (.c (.int .u32 100))),jj 32 (.bin .mul (.t 31) (.c (.int .u32 2))),mv 33 7,jj 34 (.bin .rem (.t 33) (.c (.int .u32 100))),jj 35 (.bin .mul (.t 34) (.c (.int .u32 2))),mv 8 32,mv 9 35] [0,1,4,6,8,9]) (.seq (rn [mv 36 6,jj 37 (.bin .quo (.t 36) (.c (.int .u32 100))),jj 38 (.bin .mul (.t 37) (.c (.int .u32 2))),mv 39 6,jj 40 (.bin .rem (.t 39) (.c (.int .u32 100))),jj 41 (.bin .mul (.t 40) (.c (.int .u32 2))),mv 10 38,mv 11 41] [0,1,4,8,9,10,11]) (.seq (.region (some []) [mv 42 0,mv 43 4,bk 44 .sub 43 1,mv 45 0,mv 46 4,bk 47 .sub 46 2,mv 48 9,jj 49 (.bin .add (.t 48) (.c (.int .u32 1))),jj 50 (.indexS (.c (.string tab)) (.t 49)),mv 51 9,jj 52 (.indexS (.c (.string tab)) (.t 51)),jj 53 (.indexAddr 1 (.t 42) (.t 44)),st 1 53 50,jj 54 (.indexAddr 1 (.t 45) (.t 47)),st 1 54 52] [0,1,4,8,10,11]) (.seq (.region (some []) [mv 55 0,mv 56 4,bk 57 .sub 56 3,mv 58 0,mv 59 4,bk 60 .sub 59 4,mv 61 8,jj 62 (.bin .add (.t 61) (.c (.int .u32 1))),jj 63 (.indexS (.c (.string tab)) (.t 62)),mv 64 8,jj 65 (.indexS (.c (.string tab)) (.t 64)),jj 66 (.indexAddr 1 (.t 55) (.t 57)),st 1 66 63,jj 67 (.indexAddr 1 (.t 58) (.t 60)),st 1 67 65] [0,1,4,10,11]) (.seq (.region (some []) [mv 68 0,mv 69 4,bk 70 .sub 69 5,mv 71 0,mv 72 4,bk 73 .sub 72 6,mv 74 11,jj 75 (.bin .add (.t 74) (.c (.int .u32 1))),jj 76 (.indexS (.c (.string tab)) (.t 75)),mv 77 11,jj 78 (.indexS (.c (.string tab)) (.t 77)),jj 79 (.indexAddr 1 (.t 68) (.t 70)),st 1 79 76,jj 80 (.indexAddr 1 (.t 71) (.t 73)),st 1 80 78] [0,1,4,10]) (.seq (.region (some []) [mv 81 0,mv 82 4,bk 83 .sub 82 7,mv 84 0,mv 85 4,bk 86 .sub 85 8,mv 87 10,jj 88 (.bin .add (.t 87) (.c (.int .u32 1))),jj 89 (.indexS (.c (.string tab)) (.t 88)),mv 90 10,jj 91 (.indexS (.c (.string tab)) (.t 90)),jj 92 (.indexAddr 1 (.t 81) (.t 83)),st 1 92 89,jj 93 (.indexAddr 1 (.t 84) (.t 86)),st 1 93 91] [0,1,4]) (rn [mv 94 4,bk 95 .sub 94 8,mv 4 95] [0,1,4]))))))))))))
def F295l0K:PC:=F295l0Kx tab
theorem qb7 (C:Task->Option Res) (q:Nat) (fr:Fr) (σ : S):run C q (F295l0K tab) fr σ = run C q (F295l0Kx tab) fr σ := rfl
def F295K:PFun:=⟨2,[],.seq (rn [mv 17 0,ls 18 17,mv 4 18] [0,1,4]) (.seq (.block 0 (.loop (F295l0K tab))) (.seq (rn [mv 96 1,jj 97 (.conv (.int .u32) (.t 96)),mv 12 97] [0,4,12]) (.seq (.seq (rn [mv 98 4,bk 99 .geq 98 4] [0,4,12,99]) (.cond (.t 99) (.seq (rn [mv 100 12,jj 101 (.bin .rem (.t 100) (.c (.int .u32 10000))),mv 13 101] [0,4,12,13]) (.seq (rn [mv 102 12,jj 103 (.bin .quo (.t 102) (.c (.int .u32 10000))),mv 12 103] [0,4,12,13]) (.seq (rn [mv 104 13,jj 105 (.bin .quo (.t 104) (.c (.int .u32 100))),jj 106 (.bin .mul (.t 105) (.c (.int .u32 2))),mv 107 13,jj 108 (.bin .rem (.t 107) (.c (.int .u32 100))),jj 109 (.bin .mul (.t 108) (.c (.int .u32 2))),mv 14 106,mv 15 109] [0,4,12,14,15]) (.seq (.region (some []) [mv 110 0,mv 111 4,bk 112 .sub 111 1,mv 113 0,mv 114 4,bk 115 .sub 114 2,mv 116 15,jj 117 (.bin .add (.t 116) (.c (.int .u32 1))),jj 118 (.indexS (.c (.string tab)) (.t 117)),mv 119 15,jj 120 (.indexS (.c (.string tab)) (.t 119)),jj 121 (.indexAddr 1 (.t 110) (.t 112)),st 1 121 118,jj 122 (.indexAddr 1 (.t 113) (.t 115)),st 1 122 120] [0,4,12,14]) (.seq (.region (some []) [mv 123 0,mv 124 4,bk 125 .sub 124 3,mv 126 0,mv 127 4,bk 128 .sub 127 4,mv 129 14,jj 130 (.bin .add (.t 129) (.c (.int .u32 1))),jj 131 (.indexS (.c (.string tab)) (.t 130)),mv 132 14,jj 133 (.indexS (.c (.string tab)) (.t 132)),jj 134 (.indexAddr 1 (.t 123) (.t 125)),st 1 134 131,jj 135 (.indexAddr 1 (.t 126) (.t 128)),st 1 135 133] [0,4,12]) (rn [mv 136 4,bk 137 .sub 136 4,mv 4 137] [0,4,12])))))) (.skip))) (.seq (.seq (rn [mv 138 4,bk 139 .geq 138 2] [0,4,12,139]) (.cond (.t 139) (.seq (rn [mv 140 12,jj 141 (.bin .rem (.t 140) (.c (.int .u32 100))),jj 142 (.bin .mul (.t 141) (.c (.int .u32 2))),mv 16 142] [0,4,12,16]) (.seq (rn [mv 143 12,jj 144 (.bin .quo (.t 143) (.c (.int .u32 100))),mv 12 144] [0,4,12,16]) (.seq (.region (some []) [mv 145 0,mv 146 4,bk 147 .sub 146 1,mv 148 0,mv 149 4,bk 150 .sub 149 2,mv 151 16,jj 152 (.bin .add (.t 151) (.c (.int .u32 1))),jj 153 (.indexS (.c (.string tab)) (.t 152)),mv 154 16,jj 155 (.indexS (.c (.string tab)) (.t 154)),jj 156 (.indexAddr 1 (.t 145) (.t 147)),st 1 156 153,jj 157 (.indexAddr 1 (.t 148) (.t 150)),st 1 157 155] [0,4,12]) (rn [mv 158 4,bk 159 .sub 158 2,mv 4 159] [0,4,12])))) (.skip))) (.seq (rn [mv 160 4,bk 161 .gtr 160 0] [0,12,161]) (.cond (.t 161) (rn [mv 162 0,mv 163 12,jj 164 (.bin .add (.c (.int .u32 48)) (.t 163)),jj 165 (.conv (.int .u8) (.t 164)),jj 166 (.indexAddr 1 (.t 162) (kk 0)),st 1 166 165] []) (.skip))))))),false,false,false⟩
def F299K:PFun:=⟨1,[.tmp 2],.seq (rn [mx 2 (kk 0)] [0,2]) (.seq (.seq (rn [mv 3 0,jj 4 (.bin .geq (.t 3) (.c (.int .u64 4294967296)))] [0,2,4]) (.cond (.t 4) (.seq (rn [mv 5 0,jj 6 (.bin .shr (.t 5) (.c (.int .u64 32))),mv 0 6] [0]) (rn [mx 2 (kk 32)] [0,2])) (.skip))) (.seq (.seq (rn [mv 7 0,jj 8 (.bin .geq (.t 7) (.c (.int .u64 65536)))] [0,2,8]) (.cond (.t 8) (.seq (rn [mv 9 0,jj 10 (.bin .shr (.t 9) (.c (.int .u64 16))),mv 0 10] [0,2]) (rn [mv 11 2,bk 12 .add 11 16,mv 2 12] [0,2])) (.skip))) (.seq (.seq (rn [mv 13 0,jj 14 (.bin .geq (.t 13) (.c (.int .u64 256)))] [0,2,14]) (.cond (.t 14) (.seq (rn [mv 15 0,jj 16 (.bin .shr (.t 15) (.c (.int .u64 8))),mv 0 16] [0,2]) (rn [mv 17 2,bk 18 .add 17 8,mv 2 18] [0,2])) (.skip))) (.seq (rn [mv 19 2,mv 20 0,jj 21 (.conv (.int .u8) (.t 20)),jj 22 (.indexS (.c (.string tab)) (.t 21)),jj 23 (.conv (.int .i64) (.t 22)),bn 24 .add 19 23,mv 2 24] [2]) (.ret))))),false,false,false⟩
end
def dg (d:Nat):UInt8:=(48+d).toUInt8
theorem qhl {d:Nat} (h:d<10):(dg d).toNat=48+d:=qxD d h
theorem qbY : ∀ k,k<100->tab2[2*k]?=some (dg (k / 10)):=by decide +kernel
theorem qbZ : ∀ k,k<100->tab2[2*k+1]?=some (dg (k % 10)):=by decide +kernel
theorem qsQ : ∀ x,x<256 -> ∃ l,tab8[x]?=some l/\l.toNat<=8/\(x=0->l.toNat=0)/\(0<x->2 ^ (l.toNat-1)<=x/\x<2 ^ l.toNat/\0<l.toNat):=by
 have h : ∀ x,x<256->(match tab8[x]? with
  | some l=>decide (l.toNat<=8)&&(decide (x=0->l.toNat=0)&&decide (0<x->2 ^ (l.toNat-1)<=x/\x<2 ^ l.toNat/\0<l.toNat))
  | none=>false)=true:=by decide +kernel
 intro x hx
 have:=h x hx
 cases hl:tab8[x]? with
 | none=>rw[hl] at this; cases this
 | some l=>
  rw[hl] at this
  simp only[Bool.and_eq_true,decide_eq_true_eq] at this
  exact⟨l,rfl,this.1,this.2.1,this.2.2⟩
def qnH:Nat->Nat->List UInt8
 | 0,_=>[]
 | d+1,u=>qnH d (u / 10)++[dg (u % 10)]
theorem qk5 : ∀ (k d u:Nat),u<10 ^ (d+1)->(d=0\/10 ^ d<=u)->d<k->qiw k u=qnH (d+1) u
 | 0,d,u,_,_,h=>by omega
 | k+1,0,u,h,_,_=>by
  have:u<10:=by simpa using h
  simp[qiw,qnH,this,dg,Nat.mod_eq_of_lt this]
 | k+1,d+1,u,h,h2,h3=>by
  have e : ¬ u<10:=by
   have:10 ^ 1<=10 ^ (d+1):=Nat.pow_le_pow_right (by omega) (by omega)
   rcases h2 with h2 | h2<;>omega
  have ih:=qk5 k d (u / 10) (by rw[Nat.pow_succ] at h; omega) (by
   rcases d with _ | d
   ·exact .inl rfl
   ·right
    rcases h2 with h2 | h2
    ·cases h2
    ·rw[Nat.pow_succ] at h2; omega) (by omega)
  rw[qiw,if_neg e,ih,qnH]
  rfl
theorem qc9 {d u:Nat} (h:u<10 ^ (d+1)) (h2:10 ^ d<=u) (hd:d<20):decB u=qnH (d+1) u:=qk5 20 d u h (.inr h2) hd
abbrev U64 (n:Nat):V := .dat (.lit (.int .u64 n))
theorem qoZ {n:Nat} (h:n<18446744073709551616):IntKind.u64.wrap (n:Int)=n:=by rw[IntKind.wrap_u64]; omega
theorem qfu {n:Nat} (h:n<4294967296):IntKind.u32.wrap (n:Int)=n:=by rw[IntKind.wrap_u32']; omega
theorem w8u {n:Nat} (h:n<256):IntKind.u8.wrap (n:Int)=n:=by rw[IntKind.wrap_u8']; omega
theorem qsR (a b:Nat):Int.fdiv (a:Int) (b:Int)=((a / b:Nat):Int):=by
 rw[Int.fdiv_eq_ediv_of_nonneg _ (by omega)]; rfl
theorem qw9 {u:Nat} (h0:0<u) (h1:u<2147483648) : ∃ L:Nat,L<=31/\0<L/\2 ^ (L-1)<=u/\u<2 ^ L/\Z tQ (.call 299 [U64 u] [])=some (.ret (.int L) []):=by
 have key : ∀ x a:Nat,x<256->0<x->a<=24->a*1=a -> ∃ l:UInt8,tab8[x]?=some l/\a+l.toNat<=a+8/\0<a+l.toNat/\2 ^ (a+l.toNat-1)<=x*2 ^ a/\(x+1)*2 ^ a<=2 ^ (a+l.toNat)/\l.toNat<=8:=by
  intro x a hx hp _ _
  obtain⟨l,e1,e2,_,e4⟩:=qsQ x hx
  obtain⟨e5,e6,e7⟩:=e4 hp
  refine⟨l,e1,by omega,by omega,?_,?_,e2⟩
  ·rw[show a+l.toNat-1=(l.toNat-1)+a by omega,Nat.pow_add]
   exact Nat.mul_le_mul_right _ e5
  ·rw[Nat.add_comm a,Nat.pow_add]
   exact Nat.mul_le_mul_right _ e6
 have hx:tQ 299=some (F299K tab8):=rfl
 have c1 : ¬ (4294967296:Int)<=u:=by omega
 have n16 : ∀ x:Nat,qrO .u64 (x:Int) 16=((x / 65536:Nat):Int):=fun x=>qsR x 65536
 have n8 : ∀ x:Nat,qrO .u64 (x:Int) 8=((x / 256:Nat):Int):=fun x=>qsR x 256
 by_cases a1:65536<=u
 ·by_cases a2:256<=u / 65536
  ·obtain⟨l,e1,e2,e3,e4,e5,e6⟩:=key (u / 65536 / 256) 24 (by omega) (by omega) (by omega) rfl
   have hL:l.toNat<=7:=by
    rcases Nat.lt_or_ge l.toNat 8 with h | h
    ·omega
    ·have:l.toNat=8:=by omega
     rw[this] at e4
     omega
   refine⟨24+l.toNat,by omega,e3,by omega,by omega,?_⟩
   refine Z_call hx rfl ?_
   have w1:=w8u (show u / 65536 / 256<256 by omega)
   have w2:IntKind.i64.wrap (24+(l.toNat:Int))=((24+l.toNat:Nat):Int):=by rw[qaf _ (by omega)]; omega
   have w3:=qaf (l.toNat:Int) (by omega)
   have w4:IntKind.i64.wrap 24=24:=rfl
   have w5:IntKind.i64.wrap 16=16:=rfl
   have b1:(65536:Int)<=u:=by omega
   have b2:(256:Int)<=((u / 65536:Nat):Int):=by omega
   generalize tab8=tb at *
   generalize hq1:u / 65536=q1 at *
   generalize hq2:q1 / 256=q2 at *
   generalize 24+l.toNat=L at *
   simp[F299K,c1,b1,b2,n16,n8,hq1,hq2,w1,w2,w3,w4,w5,e1]
  ·obtain⟨l,e1,e2,e3,e4,e5,e6⟩:=key (u / 65536) 16 (by omega) (by omega) (by omega) rfl
   refine⟨16+l.toNat,by omega,e3,by omega,by omega,?_⟩
   refine Z_call hx rfl ?_
   have w1:=w8u (show u / 65536<256 by omega)
   have w2:IntKind.i64.wrap (16+(l.toNat:Int))=((16+l.toNat:Nat):Int):=by rw[qaf _ (by omega)]; omega
   have w3:=qaf (l.toNat:Int) (by omega)
   have w4:IntKind.i64.wrap 16=16:=rfl
   have b1:(65536:Int)<=u:=by omega
   have b2 : ¬ (256:Int)<=((u / 65536:Nat):Int):=by omega
   generalize tab8=tb at *
   generalize hq1:u / 65536=q1 at *
   generalize 16+l.toNat=L at *
   simp[F299K,c1,b1,b2,n16,n8,hq1,w1,w2,w3,w4,e1]
 ·by_cases a2:256<=u
  ·obtain⟨l,e1,e2,e3,e4,e5,e6⟩:=key (u / 256) 8 (by omega) (by omega) (by omega) rfl
   refine⟨8+l.toNat,by omega,e3,by omega,by omega,?_⟩
   refine Z_call hx rfl ?_
   have w1:=w8u (show u / 256<256 by omega)
   have w2:IntKind.i64.wrap (8+(l.toNat:Int))=((8+l.toNat:Nat):Int):=by rw[qaf _ (by omega)]; omega
   have w3:=qaf (l.toNat:Int) (by omega)
   have w4:IntKind.i64.wrap 8=8:=rfl
   have b1 : ¬ (65536:Int)<=u:=by omega
   have b2:(256:Int)<=u:=by omega
   generalize tab8=tb at *
   generalize hq1:u / 256=q1 at *
   generalize 8+l.toNat=L at *
   simp[F299K,c1,b1,b2,n16,n8,hq1,w1,w2,w3,w4,e1]
  ·obtain⟨l,e1,e2,e3,e4,e5,e6⟩:=key u 0 (by omega) (by omega) (by omega) rfl
   refine⟨0+l.toNat,by omega,e3,by omega,by omega,?_⟩
   refine Z_call hx rfl ?_
   have w1:=w8u (show u<256 by omega)
   have w2:IntKind.i64.wrap (0+(l.toNat:Int))=((0+l.toNat:Nat):Int):=by rw[qaf _ (by omega)]; omega
   have w3:=qaf (l.toNat:Int) (by omega)
   have b1 : ¬ (65536:Int)<=u:=by omega
   have b2 : ¬ (256:Int)<=u:=by omega
   generalize tab8=tb at *
   simp[F299K,c1,b1,b2,n16,n8,w1,w3,e1]
theorem qxa {L:Nat} (h:L<=31):Z tQ (.call 298 [.int L] [])=some (.ret (.int (L*78913 / 262144:Nat)) []):=by
 refine Z_call (pf:=F298) rfl rfl ?_
 have w1:=qaf ((L:Int)*78913) (by omega)
 have n18:qrO .i64 ((L:Int)*78913) 18=((L*78913 / 262144:Nat):Int):=by
  have:=qsR (L*78913) 262144
  rw[<- this]
  simp[qrO]
  rfl
 generalize L*78913 / 262144=q at *
 simp[F298,w1,n18]
theorem qxb (b:Bool):Z tQ (.call 300 [.bool b] [])=some (.ret (.int (if b then 1 else 0)) []):=by
 refine Z_call (pf:=F300) rfl rfl ?_
 cases b<;>simp[F300]
theorem qsS : ∀ i,i<20->cutCells G_internal_strconv_uint64pow10 i 1=some [.lit (.int .u64 (10 ^ i:Nat))]:=by
 intro i hi
 unfold cutCells G_internal_strconv_uint64pow10
 rw[List.drop_eq_getElem_cons (by simpa using hi)]
 simp
theorem qsT {u L:Nat} (h7:7<=L) (h31:L<=31) (hl:2 ^ (L-1)<=u) (hu:u<2 ^ L) (h100:100<=u) (h2:u<2147483648) : ∃ d,3<=d/\d<=10/\10 ^ (d-1)<=u/\u<10 ^ d/\d=L*78913 / 262144+(if 10 ^ (L*78913 / 262144)<=u then 1 else 0):=by
 have hL:L=7\/L=8\/L=9\/L=10\/L=11\/L=12\/L=13\/L=14\/L=15\/L=16\/L=17\/L=18\/L=19\/L=20\/L=21\/L=22\/L=23\/L=24\/L=25\/L=26\/L=27\/L=28\/L=29\/L=30\/L=31:=by omega
 rcases hL with rfl | rfl | rfl | rfl | rfl | rfl | rfl | rfl | rfl | rfl | rfl | rfl | rfl | rfl | rfl | rfl | rfl | rfl | rfl | rfl | rfl | rfl | rfl | rfl | rfl
 all_goals
  refine⟨_,?_,?_,?_,?_,rfl⟩<;>simp only[Nat.reduceMul,Nat.reduceDiv,Nat.reducePow,Nat.reduceSub] at hl hu ⊢ <;> split<;>simp<;>omega
theorem qqC {u:Nat} (h100:100<=u) (h2:u<2147483648) : ∃ d:Nat,3<=d/\d<=10/\10 ^ (d-1)<=u/\u<10 ^ d/\Z tQ (.call 294 [U64 u] [])=some (.ret (.int d) []):=by
 obtain⟨L,l1,l2,l3,l4,z⟩:=qw9 (by omega) h2
 have h7:7<=L:=by
  rcases Nat.lt_or_ge L 7 with h | h
  ·have:2 ^ L<=2 ^ 6:=Nat.pow_le_pow_right (by omega) (by omega)
   omega
  ·exact h
 obtain⟨d,d1,d2,d3,d4,d5⟩:=qsT h7 l1 l3 l4 h100 h2
 refine⟨d,d1,d2,d3,d4,?_⟩
 have zl:=qxa l1
 have hi:L*78913 / 262144<=9:=by omega
 generalize L*78913 / 262144=i at *
 have hp:=qsS i (by omega)
 have zb:=qxb (decide (10 ^ i<=u))
 have hc:((10 ^ i:Nat):Int)<=(u:Int)↔10 ^ i<=u:=by omega
 have hres:IntKind.i64.wrap ((i:Int)+(if decide (10 ^ i<=u)=true then 1 else 0))=(d:Int):=by
  rw[qaf _ (by split<;>omega),d5]
  by_cases h:10 ^ i<=u<;>simp[h]
 refine Z_call (pf:=F294) rfl rfl ?_
 have i20:(i:Int)<20:=by omega
 generalize 10 ^ i=P at *
 generalize (if decide (P<=u)=true then (1:Int) else 0)=e at *
 simp[F294,z,zl,zb,hp,hc,hres,i20]
end Go.Pm
end SOd
