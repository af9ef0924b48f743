/- The abstract machine's program, printed by a program of our own: group 5. -/
import Derived.Test.YtoccgneneplciaaGreatDoorPmEt
import Derived.Test.YtoccgneneplciaaGreatDoorPmAL
import Derived.Test.YtoccgneneplciaaGreatDoorPmR1
set_option linter.unusedSimpArgs false
set_option linter.unusedVariables false
section
namespace Go.Pm.F
variable(C:Task->Option Res)(q:Nat)(fr:Fr)(σ : S)
def effRows15:List (List Int):=[[0,0],[0,1],[0,1],[1,0],[1,1],[2,0],[0,1],[0,1],[0,1],[2,1],[2,1],[2,1],[2,1],[1,1],[2,1],[2,1],[2,1],[1,1],[0,0],[1,0],[2,0],[0,0]]
def G_arenanet_compile_effects:List D:=effRows15.flatten.map fun n => .lit (.int .i64 n)
@[simp] def F125l0x:PC:=(.seq (rn [bn 19 .lss 18 17] [1,16,17,18,19]) (.seq (.cond (.t 19) (.skip) (.exit 0)) (.seq (.block 1 (.seq (rn [jj 20 (.indexAddr 2 (.t 16) (.t 18)),la 21 2 20,jj 4 (.alloc [zN,zN]),st 2 4 21] [1,4,16,17,18]) (.seq (rn [la 22 2 4,fa 23 0 1,l1 24 23,ls 25 24,cl 26 138 [22,25],jj 27 (.un .not (.t 26))] [1,16,17,18,27]) (.cond (.t 27) (.seq (rn [mx 2 (kk 14)] [2]) (.ret)) (.skip))))) (rn [bk 28 .add 18 1,mv 18 28] [1,16,17,18]))))
def F125l0:PC:=F125l0x
@[simp] def F125l1x:PC:=(.seq (rn [bk 32 .lss 31 3] [1,30,31,32]) (.seq (.cond (.t 32) (.skip) (.exit 2)) (.seq (.block 3 (.seq (rn [jj 33 (.indexA false 3 1 (.t 30) (.t 31)),mv 6 33] [1,6,30,31]) (.seq (rn [mv 34 6,bk 35 .lss 34 (-1),mv 36 35,jf 37 36 (.mov (.t 6)),jf 38 36 (.fieldAddr 0 (.t 1)),jf 39 36 (.load false 1 (.t 38)),jf 40 36 (.len .sl (.t 39)),jf 41 36 (.bin .geq (.t 37) (.t 40)),jj 42 (.pick (.t 36) kT (.t 41))] [1,30,31,42]) (.cond (.t 42) (.seq (rn [mx 2 (kk 14)] [2]) (.ret)) (.skip))))) (rn [bk 43 .add 31 1,mv 31 43] [1,30,31]))))
def F125l1:PC:=F125l1x
@[simp] def F125l2x:PC:=(.seq (rn [bk 47 .lss 46 3] [1,7,45,46,47]) (.seq (.cond (.t 47) (.skip) (.exit 4)) (.seq (.block 5 (.seq (rn [jj 48 (.indexA false 3 1 (.t 45) (.t 46)),mv 9 48] [1,7,9,45,46]) (.seq (.seq (rn [mv 49 9,bk 50 .lss 49 0] [1,7,9,45,46,50]) (.cond (.t 50) (.exit 5) (.skip))) (.seq (rn [la 51 4 1,mv 52 9,cl 53 139 [51,52],jj 10 (.alloc [(.lit (.bool false)),(.lit (.bool false)),zN]),st 3 10 53] [1,7,10,45,46]) (.seq (.seq (rn [fa 54 0 10,l1 55 54] [1,7,10,45,46,55]) (.cond (.t 55) (.seq (rn [mx 2 (kk 14)] [2]) (.ret)) (.skip))) (.seq (rn [la 56 3 10,cl 57 140 [56],jj 58 (.un .not (.t 57))] [1,7,45,46,58]) (.cond (.t 58) (rn [mx 7 (kk 15)] [1,7,45,46]) (.skip)))))))) (rn [bk 59 .add 46 1,mv 46 59] [1,7,45,46]))))
def F125l2:PC:=F125l2x
def F125:PFun:=⟨1,[.tmp 2],.seq (rn [bx 1 0,mx 2 (kk 0)] [1]) (.seq (.seq (rn [fa 11 0 1,l1 12 11,ls 13 12,bk 14 .gtr 13 400] [1,14]) (.cond (.t 14) (.seq (rn [mx 2 (kk 2)] [2]) (.ret)) (.skip))) (.seq (.seq (rn [fa 15 0 1,l1 16 15,ls 17 16,mx 18 (kk 0)] [1,16,17,18]) (.block 0 (.loop F125l0))) (.seq (.seq (rn [fa 29 1 1,la 30 3 29,mx 31 (kk 0)] [1,30,31]) (.block 2 (.loop F125l1))) (.seq (rn [mx 7 (kk 0)] [1,7]) (.seq (.seq (rn [fa 44 1 1,la 45 3 44,mx 46 (kk 0)] [1,7,45,46]) (.block 4 (.loop F125l2))) (.seq (rn [mv 60 7,mv 2 60] [2]) (.ret))))))),false,false,false⟩
def F128:PFun:=⟨2,[.tmp 4],.seq (rn [bx 2 0,mx 4 (kk 0)] [1,2]) (.seq (.seq (rn [mv 5 1,bk 6 .lss 5 0,mv 7 6,jf 8 7 (.mov (.t 1)),jf 9 7 (.bin .geq (.t 8) (kk 3)),jj 10 (.pick (.t 7) kT (.t 9)),mv 11 10,jf 12 11 (.mov (.t 1)),jf 13 11 (.fieldAddr 1 (.t 2)),jf 14 11 (.indexAddrA 3 1 (.t 13) (.t 12)),jf 15 11 (.load false 1 (.t 14)),jf 16 11 (.bin .lss (.t 15) (kk 0)),jj 17 (.pick (.t 11) kT (.t 16)),mv 18 17,jf 19 18 (.load true 4 (.t 2)),jf 20 18 (.call 125 [(.t 19)]),jf 21 18 (.bin .neq (.t 20) (kk 0)),jj 22 (.pick (.t 18) kT (.t 21))] [1,2,22]) (.cond (.t 22) (.seq (rn [mx 4 (kk 0)] [4]) (.ret)) (.skip))) (.seq (.region (some []) [la 23 4 2,mv 24 1,fa 25 1 2,jj 26 (.indexAddrA 3 1 (.t 25) (.t 24)),l1 27 26,cl 28 139 [23,27],jj 29 (.field false 2 1 (.t 28)),mv 4 29] [4] [5]) (.ret))),false,false,false⟩
@[simp] def F131l0x:PC:=(.seq (rn [bn 20 .lss 19 18] [1,2,4,17,18,19,20]) (.seq (.cond (.t 20) (.skip) (.exit 0)) (.seq (.block 1 (.seq (rn [mv 21 19,jj 22 (.indexAddr 1 (.t 17) (.t 19)),l1 23 22,mv 5 21,mv 6 23] [1,2,4,5,6,17,18,19]) (rn [mv 24 4,nc 25 24,fa 26 0 25,fa 27 1 26,l1 28 27,mv 29 6,mv 30 5,jn (.mapset .s (.t 28) (.t 29) (.t 30))] [1,2,4,17,18,19]))) (rn [bk 31 .add 19 1,mv 19 31] [1,2,4,17,18,19]))))
def F131l0:PC:=F131l0x
theorem qi6:run C q F131l0 fr σ = run C q F131l0x fr σ := rfl
@[simp] def F131l1x:PC:=(.seq (rn [bk 35 .lss 34 3] [2,4,33,34,35]) (.seq (.cond (.t 35) (.skip) (.exit 2)) (.seq (.block 3 (.seq (rn [mv 36 34,jj 37 (.indexA true 3 4 (.t 33) (.t 34)),jj 8 (.alloc [zN,zN,eN,sN]),mv 7 36,st 4 8 37] [2,4,7,8,33,34]) (.seq (rn [mv 38 4,mv 39 7,nc 40 38,fa 41 2 40,jj 42 (.indexAddrA 3 1 (.t 41) (.t 39)),jn (.store 1 (.t 42) (kk (-1)))] [2,4,7,8,33,34]) (.seq (rn [fa 43 0 8,l1 44 43,bk 45 .neq 44 0] [2,4,7,8,33,34,45]) (.cond (.t 45) (.seq (.region (some []) [mv 46 4,mv 47 7,mv 48 4,nc 49 48,fa 50 0 49,fa 51 0 50,l1 52 51,ls 53 52,nc 54 46,fa 55 2 54,jj 56 (.indexAddrA 3 1 (.t 55) (.t 47)),st 1 56 53] [2,4,8,33,34]) (.seq (.region (some []) [mv 57 4,nc 58 57,fa 59 0 58,la 60 4 8,cl 61 147 [59,60]] [2,4,33,34] [4]) (rn [mv 62 4,nc 63 62,fa 64 0 63,jj 65 (.call 148 [(.t 64),(kk 21),(kk 0)])] [2,4,33,34]))) (.skip)))))) (rn [bk 66 .add 34 1,mv 34 66] [2,4,33,34]))))
def F131l1:PC:=F131l1x
theorem qaZ:run C q F131l1 fr σ = run C q F131l1x fr σ := rfl
@[simp] def F131l2x:PC:=(.seq (rn [bk 88 .lss 87 3] [2,9,86,87,88]) (.seq (.cond (.t 88) (.skip) (.exit 4)) (.seq (.block 5 (.seq (rn [jj 89 (.indexA false 3 1 (.t 86) (.t 87)),mv 11 89] [2,9,11,86,87]) (.seq (rn [mv 90 11,bk 91 .geq 90 0,mv 92 91,jt 93 92 (.load true 4 (.t 9)),jt 94 92 (.mov (.t 11)),jt 95 92 (.call 139 [(.t 93),(.t 94)]),jt 96 92 (.call 140 [(.t 95)]),jt 97 92 (.un .not (.t 96)),jj 98 (.pick (.t 92) (.t 97) kF)] [2,9,86,87,98]) (.cond (.t 98) (.seq (rn [jj 99 (.build [sN,zN,zN,zN] []),st 4 2 99,mx 3 (kk 15)] [2,3]) (.ret)) (.skip))))) (rn [bk 100 .add 87 1,mv 87 100] [2,9,86,87]))))
def F131l2:PC:=F131l2x
theorem qa0:run C q F131l2 fr σ = run C q F131l2x fr σ := rfl
def F131:PFun:=⟨1,[.cell 2 true 4,.tmp 3],.seq (rn [bx 1 0,jj 2 (.alloc [sN,zN,zN,zN]),mx 3 (kk 0)] [1,2]) (.seq (rn [jj 12 (.mkmap),jj 13 (.build [sN,(.lit (.map none))] [(1,1,(.t 12))]),jj 14 (.build [sN,(.lit (.map none)),zN,zN,zN] [(0,2,(.t 13))]),bx 15 14,mv 4 15] [1,2,4]) (.seq (.seq (rn [la 16 12 1,cl 17 15 [16],ls 18 17,mx 19 (kk 0)] [1,2,4,17,18,19]) (.block 0 (.loop F131l0))) (.seq (.seq (rn [fa 32 0 1,la 33 12 32,mx 34 (kk 0)] [2,4,33,34]) (.block 2 (.loop F131l1))) (.seq (.seq (rn [mv 67 4,nc 68 67,fa 69 0 68,fa 70 0 69,l1 71 70,ls 72 71,bk 73 .gtr 72 400] [2,4,73]) (.cond (.t 73) (.seq (rn [jj 74 (.build [sN,zN,zN,zN] []),st 4 2 74,mx 3 (kk 2)] [2,3]) (.ret)) (.skip))) (.seq (.region (some [(111,[sN,zN,zN,zN])]) [mv 75 4,nc 76 75,fa 77 0 76,fa 78 0 77,l1 79 78,mv 80 4,nc 81 80,fa 82 2 81,la 83 3 82,jj 84 (.build [sN,zN,zN,zN] [(0,1,(.t 79)),(1,3,(.t 83))]),jj 9 (.fill 111),st 4 9 84] [2,9]) (.seq (.seq (rn [fa 85 1 9,la 86 3 85,mx 87 (kk 0)] [2,9,86,87]) (.block 4 (.loop F131l2))) (.seq (rn [la 101 4 9,st 4 2 101,mx 3 (kk 0)] [2,3]) (.ret)))))))),false,false,false⟩
def F134:PFun:=⟨1,[.tmp 2],.seq (rn [mx 2 (kk 0)] [0]) (.seq (rn [jj 6 (.mkmap),jn (.mapset .s (.t 6) (.c (.string ⟨#[120]⟩)) (kk 0)),jn (.mapset .s (.t 6) (.c (.string ⟨#[121]⟩)) (kk 1)),jn (.mapset .s (.t 6) (.c (.string ⟨#[118,120]⟩)) (kk 2)),jn (.mapset .s (.t 6) (.c (.string ⟨#[118,121]⟩)) (kk 3)),jn (.mapset .s (.t 6) (.c (.string ⟨#[97]⟩)) (kk 4)),jn (.mapset .s (.t 6) (.c (.string ⟨#[98]⟩)) (kk 5)),jn (.mapset .s (.t 6) (.c (.string ⟨#[104,105,116]⟩)) (kk 6)),jn (.mapset .s (.t 6) (.c (.string ⟨#[115,116,105,108,108]⟩)) (kk 7)),mv 7 6,mv 3 7] [0,3]) (.seq (.seq (rn [mv 9 3,mv 10 0,jj 11 (.lookup .s zN (.t 9) (.t 10) true),mv 8 11,ex 12 8 0,ex 13 8 1,mv 4 12,mv 5 13] [4,5]) (.seq (rn [mv 14 5] [4,14]) (.cond (.t 14) (.seq (rn [mv 15 4,mv 2 15] [2]) (.ret)) (.skip)))) (.seq (rn [mx 2 (kk (-1))] [2]) (.ret)))),false,false,false⟩
def F138:PFun:=⟨2,[.tmp 4],.seq (rn [bx 2 0,mx 4 kF] [1,2]) (.seq (.seq (rn [fa 7 0 2,l1 8 7,cl 9 163 [8],jj 10 (.un .not (.t 9))] [1,2,10]) (.cond (.t 10) (.seq (rn [mx 4 kF] [4]) (.ret)) (.skip))) (.seq (rn [mx 5 (kk 0),mx 6 (kk 0)] [1,2,5,6]) (.seq (.seq (rn [fa 11 0 2,l1 12 11] [1,2,5,6,12]) (.block 0 (.seq (rn [bk 14 .eql 12 1,mv 13 14] [1,2,5,6,12,13]) (.cond (.t 13) (rn [mx 5 (kk (-2147483647)),mx 6 (kk 2147483647)] [2,5,6]) (.seq (.seq (rn [bk 16 .eql 12 2,mv 15 16] [1,2,5,6,12,15]) (.cond (.t 15) (.skip) (rn [bk 17 .eql 12 3,mv 15 17] [1,2,5,6,12,15]))) (.cond (.t 15) (rn [mx 6 (kk 15)] [2,5,6]) (.seq (rn [bk 19 .eql 12 4,mv 18 19] [1,2,5,6,12,18]) (.cond (.t 18) (rn [mx 6 (kk 7)] [2,5,6]) (.seq (rn [bk 21 .eql 12 5,mv 20 21] [1,2,5,6,12,20]) (.cond (.t 20) (rn [mx 6 (kk 5)] [2,5,6]) (.seq (.seq (rn [bk 23 .eql 12 18,mv 22 23] [1,2,5,6,12,22]) (.cond (.t 22) (.skip) (rn [bk 24 .eql 12 19,mv 22 24] [1,2,5,6,22]))) (.cond (.t 22) (rn [mv 25 1,bk 26 .sub 25 1,mv 6 26] [2,5,6]) (.skip))))))))))))) (.seq (rn [mv 27 5,fa 28 1 2,l1 29 28,bn 30 .leq 27 29,mv 31 30,jt 32 31 (.fieldAddr 1 (.t 2)),jt 33 31 (.load false 1 (.t 32)),jt 34 31 (.mov (.t 6)),jt 35 31 (.bin .leq (.t 33) (.t 34)),jj 36 (.pick (.t 31) (.t 35) kF),mv 4 36] [4]) (.ret))))),false,false,false⟩
@[simp] def F139l1x:PC:=(.seq (rn [bn 71 .lss 70 69] [2,4,5,6,7,10,68,69,70,71]) (.seq (.cond (.t 71) (.skip) (.exit 2)) (.seq (.block 3 (.seq (rn [jj 72 (.indexAddr 1 (.t 68) (.t 70)),l1 73 72,mv 12 73] [2,4,5,6,7,10,12,68,69,70]) (.block 4 (.seq (rn [mv 75 12,fa 76 0 2,l1 77 76,ls 78 77,bn 79 .eql 75 78,mv 74 79] [2,4,5,6,7,10,12,68,69,70,74]) (.cond (.t 74) (rn [fa 80 0 5,jn (.store 1 (.t 80) kT)] [2,4,5,6,7,10,68,69,70]) (.seq (rn [mv 82 6,mv 83 12,jj 84 (.indexAddr 1 (.t 82) (.t 83)),l1 85 84,bk 86 .eql 85 0,mv 81 86] [2,4,5,6,7,10,12,68,69,70,81]) (.cond (.t 81) (.seq (rn [mv 87 6,mv 88 12,mv 89 10,jj 90 (.max [(.t 89),(kk 0)]),bk 91 .add 90 1,jj 92 (.indexAddr 1 (.t 87) (.t 88)),st 1 92 91] [2,4,5,6,7,10,12,68,69,70]) (rn [mv 93 7,mv 94 12,jj 95 (.bsliceO 1 1 [zN] [(0,1,(.t 94))]),jj 96 (.appendO 1 8 (.t 93) (.t 95)),mv 7 96] [2,4,5,6,7,10,68,69,70])) (.seq (rn [mv 98 6,mv 99 12,jj 100 (.indexAddr 1 (.t 98) (.t 99)),l1 101 100,mv 102 10,bk 103 .add 102 1,bn 104 .neq 101 103,mv 97 104] [2,4,5,6,7,10,68,69,70,97]) (.cond (.t 97) (rn [fa 105 1 5,jn (.store 1 (.t 105) kT)] [2,4,5,6,7,10,68,69,70]) (.skip)))))))))) (rn [bk 106 .add 70 1,mv 70 106] [2,4,5,6,7,10,68,69,70]))))
def F139l1:PC:=F139l1x
theorem qds:run C q F139l1 fr σ = run C q F139l1x fr σ := rfl
@[simp] def F139l0x:PC:=(.seq (.seq (rn [mv 22 7,ls 23 22,bk 24 .gtr 23 0] [2,4,5,6,7,24]) (.cond (.t 24) (.skip) (.exit 0))) (.block 1 (.seq (rn [mv 25 7,mv 26 7,ls 27 26,bk 28 .sub 27 1,jj 29 (.indexAddr 1 (.t 25) (.t 28)),l1 30 29,mv 8 30] [2,4,5,6,7,8]) (.seq (rn [mv 31 7,mv 32 7,ls 33 32,bk 34 .sub 33 1,jj 35 (.cut 1 (.t 31) none (some (.t 34))),mv 7 35] [2,4,5,6,7,8]) (.seq (rn [fa 36 0 2,l1 37 36,mv 38 8,jj 39 (.indexAddr 2 (.t 37) (.t 38)),fa 40 0 39,l1 41 40,jj 42 (.indexAddrA 22 2 (.g G_arenanet_compile_effects) (.t 41)),la 43 2 42,jj 9 (.alloc [zN,zN]),st 2 9 43] [2,4,5,6,7,8,9]) (.seq (rn [mv 44 6,mv 45 8,jj 46 (.indexAddr 1 (.t 44) (.t 45)),l1 47 46,bk 48 .sub 47 1,mv 10 48] [2,4,5,6,7,8,9,10]) (.seq (.seq (rn [mv 49 10,fa 50 0 9,l1 51 50,bn 52 .lss 49 51] [2,4,5,6,7,8,9,10,52]) (.cond (.t 52) (rn [fa 53 1 5,jn (.store 1 (.t 53) kT)] [2,4,5,6,7,8,9,10]) (.skip))) (.seq (rn [mv 54 10,fa 55 1 9,l1 56 55,fa 57 0 9,l1 58 57,bn 59 .sub 56 58,bn 60 .add 54 59,mv 10 60] [2,4,5,6,7,8,10]) (.seq (rn [fa 61 2 5,l1 62 61,mv 63 10,jj 64 (.max [(.t 62),(.t 63)]),fa 65 2 5,st 1 65 64] [2,4,5,6,7,8,10]) (.seq (rn [la 66 4 2,mv 67 8,cl 68 164 [66,67],ls 69 68,mx 70 (kk 0)] [2,4,5,6,7,10,68,69,70]) (.block 2 (.loop F139l1))))))))))))
def F139l0:PC:=F139l0x
theorem qfl:run C q F139l0 fr σ = run C q F139l0x fr σ := rfl
def F139:PFun:=⟨2,[.cell 4 true 3],.seq (rn [bx 2 0,jj 4 (.alloc [(.lit (.bool false)),(.lit (.bool false)),zN])] [1,2,4]) (.seq (rn [jj 5 (.alloc [(.lit (.bool false)),(.lit (.bool false)),zN])] [1,2,4,5]) (.seq (rn [fa 13 0 2,l1 14 13,ls 15 14,jj 16 (.mkslice false [zN] 8 (.t 15) (.t 15)),mv 6 16] [1,2,4,5,6]) (.seq (rn [mv 17 6,mv 18 1,jj 19 (.indexAddr 1 (.t 17) (.t 18)),jn (.store 1 (.t 19) (kk 1))] [1,2,4,5,6]) (.seq (.seq (rn [mv 20 1,jj 21 (.bsliceO 1 1 [zN] [(0,1,(.t 20))]),mv 7 21] [2,4,5,6,7]) (.block 0 (.loop F139l0))) (.seq (rn [la 107 3 5,st 3 4 107] [4]) (.ret)))))),false,false,false⟩
def F140:PFun:=⟨1,[.tmp 2],.seq (rn [bx 1 0,mx 2 kF] [1]) (.seq (rn [fa 3 1 1,l1 4 3,jj 5 (.un .not (.t 4)),mv 6 5,jt 7 6 (.fieldAddr 2 (.t 1)),jt 8 6 (.load false 1 (.t 7)),jt 9 6 (.bin .leq (.t 8) (kk 16)),jj 10 (.pick (.t 6) (.t 9) kF),mv 2 10] [2]) (.ret)),false,false,false⟩
def F147:PFun:=⟨2,[],.seq (rn [bx 3 1] [0,3]) (.seq (rn [fa 4 0 3,l1 5 4] [0,3,5]) (.block 0 (.seq (.seq (rn [bk 10 .eql 5 8,mv 9 10] [0,3,5,9]) (.cond (.t 9) (.skip) (rn [bk 11 .eql 5 9,mv 9 11] [0,3,5,9]))) (.cond (.t 9) (rn [mv 12 0,fa 13 1 3,l1 14 13,jj 15 (.call 148 [(.t 12),(kk 1),(.t 14)])] []) (.seq (rn [bk 17 .eql 5 10,mv 16 17] [0,3,5,16]) (.cond (.t 16) (.region (some []) [mv 18 0,mv 19 0,nc 20 19,fa 21 1 20,l1 22 21,fa 23 2 3,l1 24 23,jj 25 (.lookup .s zN (.t 22) (.t 24) false),jj 26 (.call 148 [(.t 18),(kk 2),(.t 25)])] [] [8]) (.seq (rn [bk 28 .eql 5 11,mv 27 28] [0,3,5,27]) (.cond (.t 27) (.seq (rn [mv 29 0,la 30 4 3,jj 31 (.call 165 [(.t 29),(.t 30),(kk 0)])] [0,3]) (rn [mv 32 0,fa 33 2 3,l1 34 33,cl 35 134 [34],jj 36 (.call 148 [(.t 32),(kk 4),(.t 35)])] [])) (.seq (rn [bk 38 .eql 5 12,mv 37 38] [0,3,5,37]) (.cond (.t 37) (rn [mv 39 0,la 40 4 3,cl 41 166 [39,40]] []) (.seq (rn [bk 43 .eql 5 13,mv 42 43] [0,3,5,42]) (.cond (.t 42) (rn [mv 44 0,la 45 4 3,cl 46 167 [44,45]] []) (.seq (rn [bk 48 .eql 5 14,mv 47 48] [0,3,47]) (.cond (.t 47) (rn [mv 49 0,la 50 4 3,cl 51 168 [49,50]] []) (rn [mv 6 0,la 7 4 3,cl 8 169 [6,7]] []))))))))))))))),false,false,false⟩
def F148:PFun:=⟨3,[.tmp 6],.seq (rn [mx 6 (kk 0)] [0,1,2]) (.seq (rn [mv 7 0,mv 8 0,nc 9 8,fa 10 0 9,l1 11 10,mv 12 1,mv 13 2,jj 14 (.build [zN,zN] [(0,1,(.t 12)),(1,1,(.t 13))]),jj 15 (.bsliceO 1 2 [zN,zN] [(0,2,(.t 14))]),jj 16 (.appendO 2 16 (.t 11) (.t 15)),nc 17 7,fa 18 0 17,st 1 18 16] [0]) (.seq (rn [mv 19 0,nc 20 19,fa 21 0 20,l1 22 21,ls 23 22,bk 24 .sub 23 1,mv 6 24] [6]) (.ret))),false,false,false⟩
def F163:PFun:=⟨1,[.tmp 2],.seq (rn [mx 2 kF] [0]) (.seq (rn [mv 3 0,bk 4 .geq 3 1,mv 5 4,jt 6 5 (.mov (.t 0)),jt 7 5 (.bin .leq (.t 6) (kk 21)),jj 8 (.pick (.t 5) (.t 7) kF),mv 2 8] [2]) (.ret)),false,false,false⟩
def F164:PFun:=⟨2,[.tmp 4],.seq (rn [bx 2 0,jj 4 (.mov (.c (.slice none 0 0)))] [1,2]) (.seq (.seq (rn [fa 6 0 2,l1 7 6,mv 8 1,jj 9 (.indexAddr 2 (.t 7) (.t 8)),la 10 2 9,jj 5 (.alloc [zN,zN]),st 2 5 10] [1,5]) (.seq (rn [fa 11 0 5,l1 12 11] [1,5,12]) (.block 0 (.seq (rn [bk 14 .eql 12 21,mv 13 14] [1,5,12,13]) (.cond (.t 13) (.seq (rn [jj 4 (.mov (.c (.slice none 0 0)))] [4]) (.ret)) (.seq (rn [bk 16 .eql 12 18,mv 15 16] [1,5,12,15]) (.cond (.t 15) (.seq (rn [fa 17 1 5,l1 18 17,jj 19 (.bslice 1 [zN] [(0,1,(.t 18))]),mv 4 19] [4]) (.ret)) (.seq (rn [bk 21 .eql 12 19,mv 20 21] [1,5,20]) (.cond (.t 20) (.seq (rn [mv 22 1,bk 23 .add 22 1,fa 24 1 5,l1 25 24,jj 26 (.bslice 2 [zN,zN] [(0,1,(.t 23)),(1,1,(.t 25))]),mv 4 26] [4]) (.ret)) (.skip)))))))))) (.seq (rn [mv 27 1,bk 28 .add 27 1,jj 29 (.bslice 1 [zN] [(0,1,(.t 28))]),mv 4 29] [4]) (.ret))),false,false,false⟩
def F165:PFun:=⟨3,[],.seq (rn [bx 4 1] [0,2,4]) (.seq (rn [mv 6 2,fa 7 3 4,l1 8 7,ls 9 8,bn 10 .lss 6 9] [0,2,4,10]) (.cond (.t 10) (rn [mv 11 0,fa 12 3 4,l1 13 12,mv 14 2,jj 15 (.indexAddr 4 (.t 13) (.t 14)),la 16 4 15,cl 17 147 [11,16]] []) (.skip))),false,false,false⟩
def F166:PFun:=⟨2,[],.seq (rn [bx 3 1] [0,3]) (.seq (rn [fa 4 2 3,l1 5 4] [0,5]) (.block 0 (.seq (rn [jj 9 (.bin .eql (.t 5) (.c (.string ⟨#[115,101,108,102]⟩))),mv 8 9] [0,5,8]) (.cond (.t 8) (rn [mv 10 0,jj 11 (.call 148 [(.t 10),(kk 6),(kk 0)])] []) (.seq (rn [jj 13 (.bin .eql (.t 5) (.c (.string ⟨#[111,116,104,101,114]⟩))),mv 12 13] [0,12]) (.cond (.t 12) (rn [mv 14 0,jj 15 (.call 148 [(.t 14),(kk 7),(kk 0)])] []) (rn [mv 6 0,jj 7 (.call 148 [(.t 6),(kk 8),(kk 0)])] []))))))),false,false,false⟩
def F167:PFun:=⟨2,[],.seq (rn [bx 3 1] [0,3]) (.seq (rn [mv 4 0,la 5 4 3,jj 6 (.call 165 [(.t 4),(.t 5),(kk 0)])] [0,3]) (.seq (rn [fa 7 2 3,l1 8 7,jj 9 (.bin .eql (.t 8) (.c (.string ⟨#[45]⟩)))] [0,9]) (.cond (.t 9) (rn [mv 10 0,jj 11 (.call 148 [(.t 10),(kk 13),(kk 0)])] []) (rn [mv 12 0,jj 13 (.call 148 [(.t 12),(kk 17),(kk 0)])] [])))),false,false,false⟩
def F168:PFun:=⟨2,[],.seq (rn [bx 2 0,bx 3 1] [2,3]) (.seq (rn [fa 4 2 3,l1 5 4] [2,3,5]) (.block 0 (.seq (rn [jj 18 (.bin .eql (.t 5) (.c (.string ⟨#[38,38]⟩))),mv 17 18] [2,3,5,17]) (.cond (.t 17) (rn [l1 19 2,jj 20 (.mkfn 181 [] [(.t 2),(.t 3)]),jj 21 (.mkfn 182 [] [(.t 2),(.t 3)]),jj 22 (.mkfn 183 [] [(.t 2)]),cl 23 180 [19,20,21,22]] []) (.seq (rn [jj 25 (.bin .eql (.t 5) (.c (.string ⟨#[124,124]⟩))),mv 24 25] [2,3,5,24]) (.cond (.t 24) (rn [l1 26 2,jj 27 (.mkfn 184 [] [(.t 2),(.t 3)]),jj 28 (.mkfn 185 [] [(.t 2)]),jj 29 (.mkfn 186 [] [(.t 2),(.t 3)]),cl 30 180 [26,27,28,29]] []) (.seq (.seq (rn [jj 32 (.bin .eql (.t 5) (.c (.string ⟨#[62]⟩))),mv 31 32] [2,3,5,31]) (.cond (.t 31) (.skip) (rn [jj 33 (.bin .eql (.t 5) (.c (.string ⟨#[62,61]⟩))),mv 31 33] [2,3,5,31]))) (.cond (.t 31) (.seq (rn [l1 34 2,la 35 4 3,jj 36 (.call 165 [(.t 34),(.t 35),(kk 1)])] [2,3]) (.seq (rn [l1 37 2,la 38 4 3,jj 39 (.call 165 [(.t 37),(.t 38),(kk 0)])] [2,3]) (.region (some []) [⟨some 40,.load false 1 (.t 2),none,[3]⟩,fa 41 2 3,l1 42 41,cl 43 187 [42],jj 44 (.call 148 [(.t 40),(.t 43),(kk 0)])] [] [3,4]))) (.seq (rn [jj 46 (.bin .eql (.t 5) (.c (.string ⟨#[33,61]⟩))),mv 45 46] [2,3,45]) (.cond (.t 45) (.seq (rn [l1 47 2,la 48 4 3,jj 49 (.call 165 [(.t 47),(.t 48),(kk 0)])] [2,3]) (.seq (rn [l1 50 2,la 51 4 3,jj 52 (.call 165 [(.t 50),(.t 51),(kk 1)])] [2]) (.seq (rn [l1 53 2,jj 54 (.call 148 [(.t 53),(kk 16),(kk 0)])] [2]) (rn [l1 55 2,jj 56 (.call 148 [(.t 55),(kk 17),(kk 0)])] [])))) (.seq (rn [l1 6 2,la 7 4 3,jj 8 (.call 165 [(.t 6),(.t 7),(kk 0)])] [2,3]) (.seq (rn [l1 9 2,la 10 4 3,jj 11 (.call 165 [(.t 9),(.t 10),(kk 1)])] [2,3]) (.region (some []) [⟨some 12,.load false 1 (.t 2),none,[3]⟩,fa 13 2 3,l1 14 13,cl 15 187 [14],jj 16 (.call 148 [(.t 12),(.t 15),(kk 0)])] [] [3,4]))))))))))))),false,false,false⟩
@[simp] def F169l0x:PC:=(.seq (rn [bn 66 .lss 65 64] [2,3,64,65,66]) (.seq (.cond (.t 66) (.skip) (.exit 1)) (.seq (.block 2 (.seq (rn [mv 67 65,mv 4 67] [2,3,4,64,65]) (rn [l1 68 2,la 69 4 3,mv 70 4,cl 71 165 [68,69,70]] [2,3,64,65]))) (rn [bk 72 .add 65 1,mv 65 72] [2,3,64,65]))))
def F169l0:PC:=F169l0x
theorem qdt:run C q F169l0 fr σ = run C q F169l0x fr σ := rfl
def F169:PFun:=⟨2,[],.seq (rn [bx 2 0,bx 3 1] [2,3]) (.seq (rn [fa 5 0 3,l1 6 5] [2,3,6]) (.block 0 (.seq (rn [bk 8 .eql 6 1,mv 7 8] [2,3,6,7]) (.cond (.t 7) (.seq (rn [l1 9 2,la 10 4 3,jj 11 (.call 165 [(.t 9),(.t 10),(kk 0)])] [2,3]) (.region (some []) [l1 12 2,l1 13 2,nc 14 13,fa 15 1 14,l1 16 15,fa 17 2 3,l1 18 17,jj 19 (.lookup .s zN (.t 16) (.t 18) false),jj 20 (.call 148 [(.t 12),(kk 3),(.t 19)])] [] [8])) (.seq (rn [bk 22 .eql 6 2,mv 21 22] [2,3,6,21]) (.cond (.t 21) (.seq (rn [l1 23 2,la 24 4 3,jj 25 (.call 165 [(.t 23),(.t 24),(kk 0)])] [2,3]) (.seq (rn [l1 26 2,la 27 4 3,jj 28 (.call 165 [(.t 26),(.t 27),(kk 1)])] [2,3]) (.region (some []) [⟨some 29,.load false 1 (.t 2),none,[3]⟩,fa 30 2 3,l1 31 30,cl 32 134 [31],jj 33 (.call 148 [(.t 29),(kk 5),(.t 32)])] [] [3,4]))) (.seq (rn [bk 35 .eql 6 3,mv 34 35] [2,3,6,34]) (.cond (.t 34) (rn [l1 36 2,jj 37 (.mkfn 188 [] [(.t 2),(.t 3)]),jj 38 (.mkfn 189 [] [(.t 2),(.t 3)]),jj 39 (.mkfn 190 [] [(.t 2),(.t 3)]),cl 40 180 [36,37,38,39]] []) (.seq (rn [bk 42 .eql 6 4,mv 41 42] [2,3,6,41]) (.cond (.t 41) (rn [l1 43 2,la 44 4 3,cl 45 191 [43,44]] []) (.seq (rn [bk 47 .eql 6 5,mv 46 47] [2,3,6,46]) (.cond (.t 46) (.seq (rn [l1 48 2,la 49 4 3,jj 50 (.call 165 [(.t 48),(.t 49),(kk 0)])] [2,3]) (.seq (rn [l1 51 2,la 52 4 3,jj 53 (.call 165 [(.t 51),(.t 52),(kk 1)])] [2]) (rn [l1 54 2,jj 55 (.call 148 [(.t 54),(kk 20),(kk 0)])] []))) (.seq (rn [bk 57 .eql 6 6,mv 56 57] [2,3,6,56]) (.cond (.t 56) (rn [l1 58 2,jj 59 (.call 148 [(.t 58),(kk 21),(kk 0)])] []) (.seq (rn [bk 61 .eql 6 7,mv 60 61] [2,3,60]) (.cond (.t 60) (.seq (rn [fa 62 3 3,l1 63 62,ls 64 63,mx 65 (kk 0)] [2,3,64,65]) (.block 1 (.loop F169l0))) (.skip))))))))))))))))),false,false,false⟩
def F180:PFun:=⟨4,[],.seq (rn [mv 8 1,jj 9 (.callv (.t 8) [])] [1000000,0,2,3]) (.seq (rn [mv 10 0,mv 11 2,cl 12 200 [10,11],jj 1000000 (.defer (.t 12) [])] [1000000,3]) (rn [mv 13 3,jj 14 (.callv (.t 13) [])] [1000000])),false,true,false⟩
def F181:PFun:=⟨2,[],rn [l1 2 0,la 3 4 1,jj 4 (.call 165 [(.t 2),(.t 3),(kk 0)])] [],false,false,false⟩
def F182:PFun:=⟨2,[],rn [l1 2 0,la 3 4 1,jj 4 (.call 165 [(.t 2),(.t 3),(kk 1)])] [],false,false,false⟩
def F183:PFun:=⟨1,[],rn [l1 1 0,jj 2 (.call 148 [(.t 1),(kk 1),(kk 0)])] [],false,false,false⟩
def F184:PFun:=⟨2,[],rn [l1 2 0,la 3 4 1,jj 4 (.call 165 [(.t 2),(.t 3),(kk 0)])] [],false,false,false⟩
def F185:PFun:=⟨1,[],rn [l1 1 0,jj 2 (.call 148 [(.t 1),(kk 1),(kk 1)])] [],false,false,false⟩
def F186:PFun:=⟨2,[],rn [l1 2 0,la 3 4 1,jj 4 (.call 165 [(.t 2),(.t 3),(kk 1)])] [],false,false,false⟩
def F187:PFun:=⟨1,[.tmp 2],.seq (rn [mx 2 (kk 0)] [0]) (.seq (.seq (rn [mv 3 0] [3]) (.block 0 (.seq (rn [jj 5 (.bin .eql (.t 3) (.c (.string ⟨#[43]⟩))),mv 4 5] [3,4]) (.cond (.t 4) (.seq (rn [mx 2 (kk 9)] [2]) (.ret)) (.seq (rn [jj 7 (.bin .eql (.t 3) (.c (.string ⟨#[45]⟩))),mv 6 7] [3,6]) (.cond (.t 6) (.seq (rn [mx 2 (kk 10)] [2]) (.ret)) (.seq (rn [jj 9 (.bin .eql (.t 3) (.c (.string ⟨#[42]⟩))),mv 8 9] [3,8]) (.cond (.t 8) (.seq (rn [mx 2 (kk 11)] [2]) (.ret)) (.seq (rn [jj 11 (.bin .eql (.t 3) (.c (.string ⟨#[47]⟩))),mv 10 11] [3,10]) (.cond (.t 10) (.seq (rn [mx 2 (kk 12)] [2]) (.ret)) (.seq (.seq (rn [jj 13 (.bin .eql (.t 3) (.c (.string ⟨#[60]⟩))),mv 12 13] [3,12]) (.cond (.t 12) (.skip) (rn [jj 14 (.bin .eql (.t 3) (.c (.string ⟨#[62]⟩))),mv 12 14] [3,12]))) (.cond (.t 12) (.seq (rn [mx 2 (kk 14)] [2]) (.ret)) (.seq (.seq (rn [jj 16 (.bin .eql (.t 3) (.c (.string ⟨#[60,61]⟩))),mv 15 16] [3,15]) (.cond (.t 15) (.skip) (rn [jj 17 (.bin .eql (.t 3) (.c (.string ⟨#[62,61]⟩))),mv 15 17] [15]))) (.cond (.t 15) (.seq (rn [mx 2 (kk 15)] [2]) (.ret)) (.skip))))))))))))))) (.seq (rn [mx 2 (kk 16)] [2]) (.ret))),false,false,false⟩
def F188:PFun:=⟨2,[],rn [l1 2 0,la 3 4 1,jj 4 (.call 165 [(.t 2),(.t 3),(kk 0)])] [],false,false,false⟩
def F189:PFun:=⟨2,[],rn [l1 2 0,la 3 4 1,jj 4 (.call 165 [(.t 2),(.t 3),(kk 1)])] [],false,false,false⟩
def F190:PFun:=⟨2,[],rn [l1 2 0,la 3 4 1,jj 4 (.call 165 [(.t 2),(.t 3),(kk 2)])] [],false,false,false⟩
def F191:PFun:=⟨2,[],.seq (rn [bx 3 1] [1000000,0,3]) (.seq (rn [mv 5 0,nc 6 5,fa 7 0 6,l1 8 7,ls 9 8,mv 4 9] [1000000,0,3,4]) (.seq (rn [mv 10 0,la 11 4 3,jj 12 (.call 165 [(.t 10),(.t 11),(kk 0)])] [1000000,0,3,4]) (.seq (rn [mv 13 0,jj 14 (.call 201 [(.t 13),(kk 19)]),jj 1000000 (.defer (.t 14) [])] [1000000,0,3,4]) (.seq (rn [mv 15 0,la 16 4 3,jj 17 (.call 165 [(.t 15),(.t 16),(kk 1)])] [1000000,0,4]) (rn [mv 18 0,mv 19 4,jj 20 (.call 148 [(.t 18),(kk 18),(.t 19)])] [1000000]))))),false,true,false⟩
def F200:PFun:=⟨2,[.tmp 4],.seq (rn [jj 4 (.mov (.c .nilFunc))] [1000000,0,1]) (.seq (rn [mv 6 0,jj 7 (.call 201 [(.t 6),(kk 19)]),mv 5 7] [1000000,0,1,5]) (.seq (rn [mv 8 5,jj 1000000 (.defer (.t 8) [])] [1000000,0,1]) (.seq (rn [mv 9 1,jj 10 (.callv (.t 9) [])] [1000000,0]) (.seq (rn [mv 11 0,jj 12 (.call 201 [(.t 11),(kk 18)]),mv 4 12] [1000000,4]) (.ret))))),false,true,false⟩
def F201:PFun:=⟨2,[.tmp 4],.seq (rn [bx 2 0,jj 4 (.mov (.c .nilFunc))] [1,2]) (.seq (rn [l1 6 2,mv 7 1,jj 8 (.call 148 [(.t 6),(.t 7),(kk 0)]),jj 5 (.alloc [zN]),st 1 5 8] [2,5]) (.seq (rn [jj 9 (.mkfn 204 [] [(.t 2),(.t 5)]),mv 4 9] [4]) (.ret))),false,false,false⟩
def F204:PFun:=⟨2,[],.region (some []) [l1 2 0,nc 3 2,fa 4 0 3,l1 5 4,l1 6 1,l1 7 0,nc 8 7,fa 9 0 8,l1 10 9,ls 11 10,jj 12 (.indexAddr 2 (.t 5) (.t 6)),fa 13 1 12,st 1 13 11] [],false,false,false⟩
end Go.Pm.F
end
section
namespace Go.Pm.F
variable(C:Task->Option Res)(q:Nat)(fr:Fr)(σ : S)
@[simp] def F133l0x:PC:=(.seq (.seq (rn [mv 20 5,fa 21 0 2,l1 22 21,ls 23 22,bn 24 .lss 20 23] [2,3,5,24]) (.cond (.t 24) (.skip) (.exit 0))) (.seq (.block 1 (.seq (.region (some []) [fa 27 0 2,l1 28 27,mv 29 5,jj 30 (.indexAddr 2 (.t 28) (.t 29)),la 31 2 30,fa 32 0 3,l1 33 32,mv 34 5,jj 35 (.indexAddr 2 (.t 33) (.t 34)),la 36 2 35,jj 37 (.eqa true [.i,.i] (.t 31) (.t 36))] [2,3,5,37]) (.cond (.t 37) (.seq (rn [mx 4 kF] [4]) (.ret)) (.skip)))) (rn [mv 25 5,bk 26 .add 25 1,mv 5 26] [2,3,5])))
def F133l0:PC:=F133l0x
theorem qgT:run C q F133l0 fr σ = run C q F133l0x fr σ := rfl
def F133:PFun:=⟨2,[.tmp 4],.seq (rn [bx 2 0,bx 3 1,mx 4 kF] [2,3]) (.seq (.seq (rn [fa 6 1 2,la 7 3 6,fa 8 1 3,la 9 3 8,jj 10 (.eqa true [.i,.i,.i] (.t 7) (.t 9)),mv 11 10,jf 12 11 (.fieldAddr 0 (.t 2)),jf 13 11 (.load false 1 (.t 12)),jf 14 11 (.len .sl (.t 13)),jf 15 11 (.fieldAddr 0 (.t 3)),jf 16 11 (.load false 1 (.t 15)),jf 17 11 (.len .sl (.t 16)),jf 18 11 (.bin .neq (.t 14) (.t 17)),jj 19 (.pick (.t 11) kT (.t 18))] [2,3,19]) (.cond (.t 19) (.seq (rn [mx 4 kF] [4]) (.ret)) (.skip))) (.seq (.seq (rn [mx 5 (kk 0)] [2,3,5]) (.block 0 (.loop F133l0))) (.seq (rn [mx 4 kT] [4]) (.ret)))),false,false,false⟩
end Go.Pm.F
end
section
namespace Go.Pm.F
variable(C:Task->Option Res)(q:Nat)(fr:Fr)(σ : S)
def F127:PFun:=⟨0,[.tmp 0],.seq (rn [mx 0 kF] []) (.seq (rn [jj 8 (.call 132 [(.c (.string ⟨#[111,110,32,116,105,99,107,32,123,32,125,32,111,110,32,97,99,116,32,123,32,97,49,32,61,32,49,32,43,32,50,59,32,125]⟩))]),mv 7 8,ex 9 7 0,ex 10 7 1,ex 11 7 2,jj 1 (.alloc [zN,zN,eN,sN,zN,zN,eN,sN,zN,zN,eN,sN]),st 12 1 9,mv 2 10,mv 3 11] [1,3]) (.seq (rn [la 13 12 1,cl 14 131 [13],mv 12 14,ex 15 12 0,ex 16 12 1,jj 4 (.alloc [sN,zN,zN,zN]),st 4 4 15,mv 5 16] [3,4,5]) (.seq (rn [jj 17 (.build [zN,zN] [(0,1,(kk 1)),(1,1,(kk 1))]),jj 18 (.build [zN,zN] [(0,1,(kk 1)),(1,1,(kk 2))]),jj 19 (.build [zN,zN] [(0,1,(kk 9))]),jj 20 (.build [zN,zN] [(0,1,(kk 3))]),jj 21 (.build [zN,zN] [(0,1,(kk 21))]),jj 22 (.build [zN,zN] [(0,1,(kk 21))]),jj 23 (.bslice 6 [zN,zN,zN,zN,zN,zN,zN,zN,zN,zN,zN,zN] [(0,2,(.t 17)),(2,2,(.t 18)),(4,2,(.t 19)),(6,2,(.t 20)),(8,2,(.t 21)),(10,2,(.t 22))]),jj 24 (.build [zN,zN,zN] [(0,1,(kk 0)),(1,1,(kk 5)),(2,1,(kk (-1)))]),jj 25 (.build [sN,zN,zN,zN] [(0,1,(.t 23)),(1,3,(.t 24))]),jj 6 (.alloc [sN,zN,zN,zN]),st 4 6 25] [3,4,5,6]) (.seq (rn [mv 26 3,bk 27 .eql 26 0,mv 28 27,jt 29 28 (.mov (.t 5)),jt 30 28 (.bin .eql (.t 29) (kk 0)),jj 31 (.pick (.t 28) (.t 30) kF),mv 32 31,jt 33 32 (.load true 4 (.t 4)),jt 34 32 (.load true 4 (.t 6)),jt 35 32 (.call 133 [(.t 33),(.t 34)]),jj 36 (.pick (.t 32) (.t 35) kF),mv 37 36,jt 38 37 (.load true 4 (.t 4)),jt 39 37 (.call 125 [(.t 38)]),jt 40 37 (.bin .eql (.t 39) (kk 0)),jj 41 (.pick (.t 37) (.t 40) kF),mv 42 41,jt 43 42 (.load true 4 (.t 4)),jt 44 42 (.call 128 [(.t 43),(kk 0)]),jt 45 42 (.bin .eql (.t 44) (kk 2)),jj 46 (.pick (.t 42) (.t 45) kF),mv 47 46,jt 48 47 (.load true 4 (.t 4)),jt 49 47 (.call 128 [(.t 48),(kk 2)]),jt 50 47 (.bin .eql (.t 49) (kk 0)),jj 51 (.pick (.t 47) (.t 50) kF),mv 0 51] [0]) (.ret))))),false,false,false⟩
end Go.Pm.F
end
section
namespace Go.Pm.F
def qad:Nat->Option PFun
 |15=>some F15
 |17=>some F17
 |23=>some F23
 |32=>some F32
 |38=>some F38
 |39=>some F39
 |123=>some F123
 |125=>some F125
 |127=>some F127
 |128=>some F128
 |131=>some F131
 |132=>some F132
 |133=>some F133
 |134=>some F134
 |136=>some F136
 |137=>some F137
 |138=>some F138
 |139=>some F139
 |140=>some F140
 |147=>some F147
 |148=>some F148
 |149=>some F149
 |150=>some F150
 |151=>some F151
 |152=>some F152
 |153=>some F153
 |154=>some F154
 |155=>some F155
 |162=>some F162
 |163=>some F163
 |164=>some F164
 |165=>some F165
 |166=>some F166
 |167=>some F167
 |168=>some F168
 |169=>some F169
 |170=>some F170
 |171=>some F171
 |172=>some F172
 |173=>some F173
 |176=>some F176
 |177=>some F177
 |178=>some F178
 |179=>some F179
 |180=>some F180
 |181=>some F181
 |182=>some F182
 |183=>some F183
 |184=>some F184
 |185=>some F185
 |186=>some F186
 |187=>some F187
 |188=>some F188
 |189=>some F189
 |190=>some F190
 |191=>some F191
 |192=>some F192
 |193=>some F193
 |194=>some F194
 |195=>some F195
 |196=>some F196
 |197=>some F197
 |198=>some F198
 |199=>some F199
 |200=>some F200
 |201=>some F201
 |202=>some F202
 |203=>some F203
 |204=>some F204
 |_=>none
theorem qgD : ∀ f pf,qaM f=some pf->qad f=some pf:=fun f pf h=>by
 unfold qaM at h
 split at h<;>first | (cases h; rfl) | cases h
end Go.Pm.F
end
namespace Go.Pm
section
def qaW(c:UInt8):Bool:=decide (97<=c.toNat)&&decide (c.toNat<=122)
def qav(c:UInt8):Bool:=decide (48<=c.toNat)&&decide (c.toNat<=57)
def qh6(s:ByteArray):Nat->Bool->Nat->Nat
 |0,_,i=>i
 |n+1,c,i=>match s[i]? with
  |none=>i
  |some b=>if b.toNat=10 then qh6 s n false (i+1) else if c=true\/b.toNat=32\/b.toNat=9 then qh6 s n c (i+1) else if b.toNat=35 then qh6 s n true (i+1) else i
def qtj(p:UInt8->Bool)(s:ByteArray):Nat->Nat->Nat
 |0,i=>i
 |n+1,i=>match s[i]? with
  |none=>i
  |some b=>if p b then qtj p s n (i+1) else i
def qaL(c:UInt8):Bool:=qaW c||qav c
def digV(l:List UInt8):Nat:=l.foldl (fun v c=>10*v+(c.toNat-48)) 0
structure Tk where
 at_:Nat
 s:ByteArray
 bad:Nat
def bs(l:List UInt8):ByteArray:=⟨l.toArray⟩
def fieldNames:List ByteArray:=[bs [120],bs [121],bs [118,120],bs [118,121],bs [97],bs [98],qkF,qta]
def wordNames:List ByteArray:=[bs [111,110],bs [97,99,116],bs [116,105,99,107],qkF,bs [105,102],bs [101,108,115,101],bs [119,104,105,108,101],bs [101,102,102,101,99,116],bs [115,116,111,112],bs [116,114,117,101],bs [102,97,108,115,101],bs [115,101,108,102],bs [111,116,104,101,114]]
def qd7:List ByteArray:=[bs [124,124],bs [38,38],bs [60,61],bs [62,61],bs [61,61],bs [33,61]]
def qj2:List Nat:=[123,125,91,93,40,41,61,59,44,60,62,43,45,42,47,33]
def tokAt(eS eL eR:Nat)(s:ByteArray)(i:Nat):Tk:=match s[i]? with
 |none=>⟨i,⟨#[]⟩,0⟩
 |some c=>
  if qaW c then
   let w:=s.extract i (qtj qaL s (s.size-i) i)
   ⟨i,w,if 8<w.size/\w∉fieldNames/\w∉wordNames then eL else 0⟩
  else if qav c then
   let w:=s.extract i (qtj qav s (s.size-i) i)
   ⟨i,w,if 2147483647<digV w.toList then eR else 0⟩
  else if i+2<=s.size/\s.extract i (i+2)∈qd7 then ⟨i,s.extract i (i+2),0⟩
  else if c.toNat∈qj2 then ⟨i,s.extract i (i+1),0⟩
  else ⟨i,s.extract i (i+1),eS⟩
def qcf(eS eL eR:Nat)(s:ByteArray):Nat->Nat->List Tk
 |0,i=>[⟨i,⟨#[]⟩,0⟩]
 |n+1,i=>
  let t:=tokAt eS eL eR s (qh6 s (s.size-i) false i)
  if t.bad≠0\/t.s.size=0 then [t] else t::qcf eS eL eR s n (t.at_+t.s.size)
inductive Rz(α : Type) where
 |ok (a : α) (r:List Tk)
 |er (i c:Nat)
def nx:List Tk->Option ByteArray
 |t::_=>if t.bad=0 then some t.s else none
 |[]=>none
def qcn{α : Type}(c:Nat):List Tk->Rz α
 |t::_ => .er t.at_ (if t.bad=0 then c else t.bad)
 |[] => .er 0 c
def Rz.bind{α β : Type}:Rz α -> (α -> List Tk->Rz β)->Rz β
 |.ok a r,k=>k a r
 |.er i c,_ => .er i c
def qaQ(eS:Nat)(x:ByteArray):List Tk->Rz Unit
 |t::r=>if t.bad=0/\t.s=x then .ok () r else qcn eS (t::r)
 |[]=>qcn eS []
def qd8(eS eL:Nat)(x:ByteArray)(lv:Nat)(ts:List Tk):Rz Unit:=
 if nx ts=some x/\20<lv then qcn eL ts else qaQ eS x ts
def qlZ(prec:Nat)(s:ByteArray):Option Bop:=
 let l:List Bop:=match prec with
  |1=>[.or] | 2=>[.and] | 4=>[.lt,.le,.gt,.ge,.eq,.ne] | 5=>[.add,.sub] | 6=>[.mul,.div] | _=>[]
 l.find? fun o=>decide (o.str=s)
def qaG(p:UInt8->Bool)(s:ByteArray):Bool:=match s[0]? with
 |some c=>p c
 |none=>false
mutual
def qas(eS eL:Nat)(f:Bool):Nat->Nat->Nat->List Tk->Option (Rz E)
 |0,_,_,_=>none
 |n+1,prec,lv,ts=>
  if prec=3/\nx ts=some (ustr false)\/prec=7/\nx ts=some (ustr true) then
   match qd8 eS eL (ustr (prec==7)) (lv+1) ts with
   |.er i c=>some (.er i c)
   |.ok _ r=>match qas eS eL f n prec (lv+1) r with
    |some (.ok e r')=>some (.ok (.un f (prec==7) e) r')
    |x=>x
  else if prec<8 then
   match qas eS eL f n (prec+1) lv ts with
   |some (.ok e r)=>qcN eS eL f n prec lv e r
   |x=>x
  else match nx ts with
   |none=>some (qcn eS ts)
   |some s=>
    if qaG qav s then some (.ok (.int (digV s.toList)) ts.tail)
    else if s=bs [116,114,117,101] then some (.ok (.bool 1) ts.tail)
    else if s=bs [102,97,108,115,101] then some (.ok (.bool 0) ts.tail)
    else if s=bs [115,101,108,102]\/s=bs [111,116,104,101,114]\/s=bs [116,105,99,107] then some (.ok (.name s) ts.tail)
    else if s∈fieldNames then match qce eS eL f n lv ts.tail with
     |some (.ok e r)=>some (.ok (.field f s e) r)
     |x=>x
    else if qaG qaW s/\s∉wordNames then some (.ok (.var s) ts.tail)
    else match qd8 eS eL (bs [40]) (lv+1) ts with
     |.er i c=>some (.er i c)
     |.ok _ r=>match qas eS eL f n 1 (lv+1) r with
      |some (.ok e r')=>match qaQ eS (bs [41]) r' with
       |.ok _ r''=>some (.ok e r'')
       |.er i c=>some (.er i c)
      |x=>x
def qcN(eS eL:Nat)(f:Bool):Nat->Nat->Nat->E->List Tk->Option (Rz E)
 |0,_,_,_,_=>none
 |n+1,prec,lv,e,ts=>match nx ts with
  |none=>if prec=3\/prec=7 then some (.ok e ts) else some (qcn eS ts)
  |some s=>match qlZ prec s with
   |none=>some (.ok e ts)
   |some o=>match qas eS eL f n (prec+1) lv ts.tail with
    |some (.ok e' r)=>if prec=4 then some (.ok (.bin f o e e') r) else qcN eS eL f n prec lv (.bin f o e e') r
    |x=>x
def qce(eS eL:Nat)(f:Bool):Nat->Nat->List Tk->Option (Rz E)
 |0,_,_=>none
 |n+1,lv,ts=>match qd8 eS eL (bs [91]) (lv+1) ts with
  |.er i c=>some (.er i c)
  |.ok _ r=>match qas eS eL f n 1 (lv+1) r with
   |some (.ok e r')=>match qaQ eS (bs [93]) r' with
    |.ok _ r''=>some (.ok e r'')
    |.er i c=>some (.er i c)
   |x=>x
end
end
section
def qbX{α : Type}(eS:Nat)(a : α)(ts:List Tk):Rz α := match qaQ eS (bs [59]) ts with
 |.ok _ r => .ok a r
 |.er i c => .er i c
mutual
def qdm(eS eL:Nat)(f fi fb:Bool):Nat->Nat->List Tk->Option (Rz Ss)
 |0,_,_=>none
 |n+1,lv,ts=>match nx ts with
  |none=>some (qcn eS ts)
  |some s=>
   if s=bs [105,102] then match qas eS eL f n 1 lv ts.tail with
    |some (.ok c r)=>match qbu eS eL f fi fb n (lv+1) r with
     |some (.ok b r1)=>match nx r1 with
      |none=>some (qcn eS r1)
      | some w=>if w=bs [101,108,115,101] then match qbu eS eL f fi fb n (lv+1) r1.tail with
        |some (.ok b2 r2)=>some (.ok (.cond false fi c (.block fb b (.block fb b2 .nil)) .nil) r2)
        |some (.er i k)=>some (.er i k)
        |none=>none
       else some (.ok (.cond false fi c (.block fb b (.block fb .nil .nil)) .nil) r1)
     |some (.er i k)=>some (.er i k)
     |none=>none
    |some (.er i k)=>some (.er i k)
    |none=>none
   else if s=bs [119,104,105,108,101] then match qas eS eL f n 1 lv ts.tail with
    |some (.ok c r)=>match qbu eS eL f fi fb n (lv+1) r with
     |some (.ok b r1)=>some (.ok (.cond true f c (.block fb b .nil) .nil) r1)
     |some (.er i k)=>some (.er i k)
     |none=>none
    |some (.er i k)=>some (.er i k)
    |none=>none
   else if s=bs [101,102,102,101,99,116] then match qas eS eL f n 1 lv ts.tail with
    |some (.ok a r)=>match qaQ eS (bs [44]) r with
     |.ok _ r1=>match qas eS eL f n 1 lv r1 with
      |some (.ok b r2)=>some (qbX eS (.effect f a b .nil) r2)
      |some (.er i k)=>some (.er i k)
      |none=>none
     |.er i k=>some (.er i k)
    |some (.er i k)=>some (.er i k)
    |none=>none
   else if s=bs [115,116,111,112] then some (qbX eS (.stop .nil) ts.tail)
   else if s∈fieldNames then match qce eS eL f n lv ts.tail with
    |some (.ok a r)=>match qaQ eS (bs [61]) r with
     |.ok _ r1=>match qas eS eL f n 1 lv r1 with
      |some (.ok b r2)=>some (qbX eS (.store f s a b .nil) r2)
      |some (.er i k)=>some (.er i k)
      |none=>none
     |.er i k=>some (.er i k)
    |some (.er i k)=>some (.er i k)
    |none=>none
   else if qaG qaW s/\s∉wordNames then match qaQ eS (bs [61]) ts.tail with
    |.ok _ r1=>match qas eS eL f n 1 lv r1 with
     |some (.ok b r2)=>some (qbX eS (.assign f s b .nil) r2)
     |some (.er i k)=>some (.er i k)
     |none=>none
    |.er i k=>some (.er i k)
   else some (qcn eS ts)
def qbu(eS eL:Nat)(f fi fb:Bool):Nat->Nat->List Tk->Option (Rz Ss)
 |0,_,_=>none
 |n+1,lv,ts=>match qd8 eS eL (bs [123]) lv ts with
  |.er i k=>some (.er i k)
  |.ok _ r=>qcJ eS eL f fi fb n lv .nil r
def qcJ(eS eL:Nat)(f fi fb:Bool):Nat->Nat->Ss->List Tk->Option (Rz Ss)
 |0,_,_,_=>none
 |n+1,lv,a,ts=>match nx ts with
  |none=>some (qcn eS ts)
  |some s=>if s=bs [125] then some (.ok a ts.tail) else match qdm eS eL f fi fb n lv ts with
   |some (.ok b r)=>qcJ eS eL f fi fb n lv (a.app b) r
   |some (.er i k)=>some (.er i k)
   |none=>none
end
def qbZ(s:ByteArray):Option Nat:=
 if s=bs [97,99,116] then some 0 else if s=bs [116,105,99,107] then some 1 else if s=qkF then some 2 else none
def qdO(eS eL eD:Nat)(f fi fb:Bool):Nat->(Nat->Option Ss)->List Tk->Option (Rz (Nat->Option Ss))
 |0,_,_=>none
 |n+1,h,ts=>match nx ts with
  |none=>some (qcn eS ts)
  |some s=>if s.size=0 then some (.ok h ts) else match qaQ eS (bs [111,110]) ts with
   |.er i k=>some (.er i k)
   |.ok _ r=>match nx r with
    |none=>some (qcn eS r)
    |some w=>match qbZ w with
     |none=>some (qcn eS r)
     |some k=>if (h k).isSome then some (qcn eD r) else match qbu eS eL f fi fb n 1 r.tail with
      |some (.ok b r1)=>qdO eS eL eD f fi fb n (fun i=>if i=k then some b else h i) r1
      |some (.er i c)=>some (.er i c)
      |none=>none
end
section
def Fin{α : Type}(m:Nat)(x:Option (Rz α)):Prop := ∃ y,x=some y /\ ∀ a r,y = .ok a r->r.length<=m
theorem qcY{α : Type}(m c:Nat)(ts:List Tk):Fin (α := α) m (some (qcn c ts)):=⟨_,rfl,fun a r h=>by cases ts<;>cases h⟩
theorem qbL{α : Type}(m i c:Nat):Fin (α := α) m (some (.er i c)):=⟨_,rfl,fun a r h=>by cases h⟩
theorem qcK{α : Type}{m:Nat}(a : α){ts:List Tk}(h:ts.length<=m):Fin m (some (.ok a ts)):=⟨_,rfl,fun a r e=>by cases e; exact h⟩
theorem qik{ts:List Tk}{s:ByteArray}(h:nx ts=some s):ts.tail.length+1=ts.length:=by
 cases ts with
 |nil=>cases h
 |cons t r=>rfl
theorem qb7{eS:Nat}{x:ByteArray}{ts r:List Tk}{u:Unit}(h:qaQ eS x ts = .ok u r):r.length+1=ts.length:=by
 cases ts with
 |nil=>cases h
 |cons t r'=>
  simp only[qaQ] at h
  split at h
  ·cases h; rfl
  ·cases h
theorem qgw{eS eL:Nat}{x:ByteArray}{lv:Nat}{ts r:List Tk}{u:Unit}(h:qd8 eS eL x lv ts = .ok u r):r.length+1=ts.length:=by
 unfold qd8 at h
 split at h
 ·cases ts<;>cases h
 ·exact qb7 h
theorem qlj (eS eL:Nat) (f:Bool) : ∀ n:Nat,
  (∀ prec lv ts,1<=prec->prec<=8->10*ts.length+(10-prec)<=n->Fin (ts.length-1) (qas eS eL f n prec lv ts)) /\
  (∀ prec lv e ts,1<=prec->prec<=7->10*ts.length+1<=n->Fin ts.length (qcN eS eL f n prec lv e ts)) /\
  (∀ lv ts,10*ts.length+1<=n->Fin (ts.length-1) (qce eS eL f n lv ts))
 |0=>⟨fun p lv ts h1 h2 h=>by omega,fun p lv e ts h1 h2 h=>by omega,fun lv ts h=>by omega⟩
 |n+1=>by
  obtain⟨ihe,ihl,ihi⟩:=qlj eS eL f n
  refine⟨fun p lv ts h1 h2 h=>?_,fun p lv e ts h1 h2 h=>?_,fun lv ts h=>?_⟩
  ·simp only[qas]
   split
   ·split
    ·exact qbL _ _ _
    ·rename_i u r ho
     have hl:=qgw ho
     obtain⟨y,hy,hr⟩:=ihe p (lv+1) r h1 h2 (by omega)
     rw[hy]
     cases y with
     |er i c=>exact qbL _ _ _
     |ok e r'=>have:=hr e r' rfl; exact qcK _ (by omega)
   ·split
    ·obtain⟨y,hy,hr⟩:=ihe (p+1) lv ts (by omega) (by omega) (by omega)
     rw[hy]
     cases y with
     |er i c=>exact qbL _ _ _
     |ok e r=>
      have:=hr e r rfl
      obtain⟨z,hz,hr2⟩:=ihl p lv e r h1 (by omega) (by omega)
      exact⟨z,hz,fun a q hq=>by have:=hr2 a q hq; omega⟩
    ·cases hn:nx ts with
     |none=>exact qcY _ _ _
     |some s=>
      have hp:=qik hn
      simp only
      split
      ·exact qcK _ (by omega)
      split
      ·exact qcK _ (by omega)
      split
      ·exact qcK _ (by omega)
      split
      ·exact qcK _ (by omega)
      split
      ·obtain⟨y,hy,hr⟩:=ihi lv ts.tail (by omega)
       rw[hy]
       cases y with
       |er i c=>exact qbL _ _ _
       |ok e r'=>have:=hr e r' rfl; exact qcK _ (by omega)
      split
      ·exact qcK _ (by omega)
      split
      ·exact qbL _ _ _
      ·rename_i u r ho
       have hl:=qgw ho
       obtain⟨y,hy,hr⟩:=ihe 1 (lv+1) r (by omega) (by omega) (by omega)
       rw[hy]
       cases y with
       |er i c=>exact qbL _ _ _
       |ok e r'=>
        have:=hr e r' rfl
        simp only
        split
        ·rename_i u' r'' hx; have:=qb7 hx; exact qcK _ (by omega)
        ·exact qbL _ _ _
  ·simp only[qcN]
   cases hn:nx ts with
   |none=>
    simp only
    split
    ·exact qcK _ (Wk _)
    ·exact qcY _ _ _
   |some s=>
    have hp:=qik hn
    simp only
    split
    ·exact qcK _ (Wk _)
    ·obtain⟨y,hy,hr⟩:=ihe (p+1) lv ts.tail (by omega) (by omega) (by omega)
     rw[hy]
     cases y with
     |er i c=>exact qbL _ _ _
     |ok e' r=>
      have:=hr e' r rfl
      simp only
      split
      ·exact qcK _ (by omega)
      ·obtain⟨z,hz,hr2⟩:=ihl p lv (.bin f _ e e') r h1 h2 (by omega)
       exact⟨z,hz,fun a q hq=>by have:=hr2 a q hq; omega⟩
  ·simp only[qce]
   split
   ·exact qbL _ _ _
   ·rename_i u r ho
    have hl:=qgw ho
    obtain⟨y,hy,hr⟩:=ihe 1 (lv+1) r (by omega) (by omega) (by omega)
    rw[hy]
    cases y with
    |er i c=>exact qbL _ _ _
    |ok e r'=>
     have:=hr e r' rfl
     simp only
     split
     ·rename_i u' r'' hx; have:=qb7 hx; exact qcK _ (by omega)
     ·exact qbL _ _ _
end
section
theorem qhW{α : Type}{eS m:Nat}{a : α}{ts:List Tk}(h:ts.length<=m+1):Fin m (some (qbX eS a ts)):=by
 unfold qbX
 split
 ·rename_i u r hx; have:=qb7 hx; exact qcK _ (by omega)
 ·exact qbL _ _ _
theorem qhX (eS eL:Nat) (f fi fb:Bool) : ∀ n:Nat,
  (∀ lv ts,10*ts.length+1<=n->Fin (ts.length-1) (qdm eS eL f fi fb n lv ts)) /\
  (∀ lv ts,10*ts.length+1<=n->Fin (ts.length-1) (qbu eS eL f fi fb n lv ts)) /\
  (∀ lv a ts,10*ts.length+2<=n->Fin (ts.length-1) (qcJ eS eL f fi fb n lv a ts))
 |0=>⟨fun lv ts h=>by omega,fun lv ts h=>by omega,fun lv a ts h=>by omega⟩
 |n+1=>by
  obtain⟨ihs,ihb,ihl⟩:=qhX eS eL f fi fb n
  obtain⟨ihe,_,ihi⟩:=qlj eS eL f n
  refine⟨fun lv ts h=>?_,fun lv ts h=>?_,fun lv a ts h=>?_⟩
  ·simp only[qdm]
   cases hn:nx ts with
   |none=>exact qcY _ _ _
   |some s=>
    have hp:=qik hn
    simp only
    have he:=ihe 1 lv ts.tail (by omega) (by omega) (by omega)
    obtain⟨y,hy,hr⟩:=he
    split
    ·rw[hy]
     cases y with
     |er i c=>exact qbL _ _ _
     |ok e r=>
      have h1:=hr e r rfl
      obtain⟨y1,hy1,hr1⟩:=ihb (lv+1) r (by omega)
      simp only[hy1]
      cases y1 with
      |er i c=>exact qbL _ _ _
      |ok b r1=>
       have h2:=hr1 b r1 rfl
       simp only
       cases hn1:nx r1 with
       |none=>exact qcY _ _ _
       |some w=>
        have hp1:=qik hn1
        simp only
        split
        ·obtain⟨y2,hy2,hr2⟩:=ihb (lv+1) r1.tail (by omega)
         rw[hy2]
         cases y2 with
         |er i c=>exact qbL _ _ _
         |ok b2 r2=>have h3:=hr2 b2 r2 rfl; exact qcK _ (by omega)
        ·exact qcK _ (by omega)
    split
    ·rw[hy]
     cases y with
     |er i c=>exact qbL _ _ _
     |ok e r=>
      have h1:=hr e r rfl
      obtain⟨y1,hy1,hr1⟩:=ihb (lv+1) r (by omega)
      simp only[hy1]
      cases y1 with
      |er i c=>exact qbL _ _ _
      |ok b r1=>have h2:=hr1 b r1 rfl; exact qcK _ (by omega)
    have second : ∀ (r:List Tk) (g:E->Ss),r.length+1<=ts.length->Fin (ts.length-1) (match qas eS eL f n 1 lv r with
      |some (.ok b r2)=>some (qbX eS (g b) r2)
      |some (.er i k)=>some (.er i k)
      |none=>none):=fun r g hr=>by
     obtain⟨y1,hy1,hr1⟩:=ihe 1 lv r (by omega) (by omega) (by omega)
     rw[hy1]
     cases y1 with
     |er i c=>exact qbL _ _ _
     |ok b r2=>have h2:=hr1 b r2 rfl; exact qhW (by omega)
    split
    ·rw[hy]
     cases y with
     |er i c=>exact qbL _ _ _
     |ok e r=>
      have h1:=hr e r rfl
      simp only
      split
      ·rename_i u r1 hx
       have:=qb7 hx
       exact second r1 (fun b => .effect f e b .nil) (by omega)
      ·exact qbL _ _ _
    split
    ·exact qhW (by omega)
    split
    ·obtain⟨y1,hy1,hr1⟩:=ihi lv ts.tail (by omega)
     rw[hy1]
     cases y1 with
     |er i c=>exact qbL _ _ _
     |ok e r=>
      have h1:=hr1 e r rfl
      simp only
      split
      ·rename_i u r1 hx
       have:=qb7 hx
       exact second r1 (fun b => .store f s e b .nil) (by omega)
      ·exact qbL _ _ _
    split
    ·split
     ·rename_i u r1 hx
      have:=qb7 hx
      exact second r1 (fun b => .assign f s b .nil) (by omega)
     ·exact qbL _ _ _
    ·exact qcY _ _ _
  ·simp only[qbu]
   split
   ·exact qbL _ _ _
   ·rename_i u r ho
    have hl:=qgw ho
    obtain⟨y,hy,hr⟩:=ihl lv .nil r (by omega)
    exact⟨y,hy,fun a q hq=>by have:=hr a q hq; omega⟩
  ·simp only[qcJ]
   cases hn:nx ts with
   |none=>exact qcY _ _ _
   |some s=>
    have hp:=qik hn
    simp only
    split
    ·exact qcK _ (by omega)
    ·obtain⟨y,hy,hr⟩:=ihs lv ts (by omega)
     rw[hy]
     cases y with
     |er i c=>exact qbL _ _ _
     |ok b r=>
      have h1:=hr b r rfl
      obtain⟨z,hz,hr2⟩:=ihl lv (a.app b) r (by omega)
      exact⟨z,hz,fun a q hq=>by have:=hr2 a q hq; omega⟩
theorem qkI(eS eL eD:Nat)(f fi fb:Bool) : ∀ (n:Nat) h ts,10*ts.length+2<=n->Fin ts.length (qdO eS eL eD f fi fb n h ts)
 |0,h,ts,hn=>by omega
 |n+1,h,ts,hn=>by
  simp only[qdO]
  cases hx:nx ts with
  |none=>exact qcY _ _ _
  |some s=>
   have hp:=qik hx
   simp only
   split
   ·exact qcK _ (Wk _)
   split
   ·exact qbL _ _ _
   ·rename_i u r hr
    have h1:=qb7 hr
    cases hw:nx r with
    |none=>exact qcY _ _ _
    |some w=>
     have hp1:=qik hw
     simp only
     split
     ·exact qcY _ _ _
     ·rename_i k hk
      split
      ·exact qcY _ _ _
      ·obtain⟨y,hy,hr⟩:=(qhX eS eL f fi fb n).2.1 1 r.tail (by omega)
       rw[hy]
       cases y with
       |er i c=>exact qbL _ _ _
       |ok b r1=>
        have h2:=hr b r1 rfl
        obtain⟨z,hz,hr2⟩:=qkI eS eL eD f fi fb n (fun i=>if i=k then some b else h i) r1 (by omega)
        exact⟨z,hz,fun a q hq=>by have:=hr2 a q hq; omega⟩
end
section
abbrev byl(s:ByteArray):List UInt8:=s.data.toList
theorem qdk(l:List UInt8):byl (bs l)=l:=by simp[byl,bs]
theorem qfM(s:ByteArray):bs (byl s)=s:=by cases s; simp[bs,byl]
theorem qaA(s:ByteArray):(byl s).length=s.size:=Wy
theorem qbq(l:List UInt8):(bs l).size=l.length:=rfl
theorem qlE{a b:List UInt8}(h:bs a=bs b):a=b:=by rw[<- qdk a,h,qdk]
theorem qvw{a b:ByteArray}(h:byl a=byl b):a=b:=by rw[<- qfM a,h,qfM]
theorem qg6(s:ByteArray)(i:Nat):s[i]?=((byl s).drop i).head?:=by
 rw[List.head?_drop]
 by_cases h:i<s.size
 ·rw[getElem?_pos s i h,WN (by rw[qaA]; exact h)]
  simp[byl,ByteArray.getElem_eq_getElem_data]
 ·rw[getElem?_neg s i h,W5 (by rw[qaA]; omega)]
theorem qcA(s:ByteArray)(i k:Nat):s.extract i (i+k)=bs (((byl s).drop i).take k):=by
 apply qvw
 rw[qdk]
 simp only[byl,ByteArray.data_extract,Array.toList_extract,List.extract_eq_take_drop]
 rw[show i+k-i=k by omega]
def qa5:Bool->List UInt8->Nat
 |_,[]=>0
 |c,b::r=>if b.toNat=10 then qa5 false r+1 else if c=true\/b.toNat=32\/b.toNat=9 then qa5 c r+1 else if b.toNat=35 then qa5 true r+1 else 0
def qbF(p:UInt8->Bool):List UInt8->Nat
 |[]=>0
 |b::r=>if p b then qbF p r+1 else 0
theorem qhU : ∀ (l:List UInt8) (c:Bool),qa5 c l<=l.length
 |[],c=>by simp[qa5]
 |b::r,c=>by
  have h1:=qhU r false
  have h2:=qhU r c
  have h3:=qhU r true
  simp only[qa5,We]
  split
  ·omega
  split
  ·omega
  split<;>omega
theorem qf7(p:UInt8->Bool) : ∀ l:List UInt8,qbF p l<=l.length
 |[]=>by simp[qbF]
 |b::r=>by
  have h1:=qf7 p r
  simp only[qbF,We]
  split<;>omega
def tokL(eS eL eR:Nat):List UInt8->List UInt8 × Nat
 |[]=>([],0)
 |c::r=>
  if qaW c then ((c::r).take (qbF qaL (c::r)),if 8<qbF qaL (c::r)/\bs ((c::r).take (qbF qaL (c::r)))∉fieldNames/\bs ((c::r).take (qbF qaL (c::r)))∉wordNames then eL else 0)
  else if qav c then ((c::r).take (qbF qav (c::r)),if 2147483647<digV ((c::r).take (qbF qav (c::r))) then eR else 0)
  else if bs ((c::r).take 2)∈qd7 then ((c::r).take 2,0)
  else if c.toNat∈qj2 then ([c],0)
  else ([c],eS)
def qtb(eS eL eR:Nat):Nat->Nat->List UInt8->List Tk
 |0,i,_=>[⟨i,⟨#[]⟩,0⟩]
 |n+1,i,l=>
  if (tokL eS eL eR (l.drop (qa5 false l))).2≠0\/(tokL eS eL eR (l.drop (qa5 false l))).1.length=0 then [⟨i+qa5 false l,bs (tokL eS eL eR (l.drop (qa5 false l))).1,(tokL eS eL eR (l.drop (qa5 false l))).2⟩]
  else ⟨i+qa5 false l,bs (tokL eS eL eR (l.drop (qa5 false l))).1,(tokL eS eL eR (l.drop (qa5 false l))).2⟩::qtb eS eL eR n (i+qa5 false l+(tokL eS eL eR (l.drop (qa5 false l))).1.length) ((l.drop (qa5 false l)).drop (tokL eS eL eR (l.drop (qa5 false l))).1.length)
theorem qkx(s:ByteArray) : ∀ (n:Nat) (c:Bool) (i:Nat),s.size-i<=n->qh6 s n c i=i+qa5 c ((byl s).drop i)
 |0,c,i,h=>by
  have:(byl s).drop i=[]:=WX (by rw[qaA]; omega)
  rw[this]
  simp[qh6,qa5]
 |n+1,c,i,h=>by
  rw[qh6,qg6]
  cases hd:(byl s).drop i with
  |nil=>simp[qa5]
  |cons b r=>
   have hr:(byl s).drop (i+1)=r:=by rw[<- List.drop_drop,hd]; rfl
   have ih:=fun c=>qkx s n c (i+1) (by omega)
   simp only[List.head?_cons,qa5,ih,hr]
   split
   ·omega
   split
   ·omega
   split<;>omega
theorem qqs(p:UInt8->Bool)(s:ByteArray) : ∀ (n i:Nat),s.size-i<=n->qtj p s n i=i+qbF p ((byl s).drop i)
 |0,i,h=>by
  have:(byl s).drop i=[]:=WX (by rw[qaA]; omega)
  rw[this]
  simp[qtj,qbF]
 |n+1,i,h=>by
  rw[qtj,qg6]
  cases hd:(byl s).drop i with
  |nil=>simp[qbF]
  |cons b r=>
   have hr:(byl s).drop (i+1)=r:=by rw[<- List.drop_drop,hd]; rfl
   have ih:=qqs p s n (i+1) (by omega)
   simp only[List.head?_cons,qbF,ih,hr]
   split<;>omega
theorem qfx{w:ByteArray}(h:w∈qd7):w.size=2:=by
 simp only[qd7,Wq,Ww,or_false] at h
 rcases h with h|h|h|h|h|h<;>rw[h]<;>rfl
theorem qdV(eS eL eR:Nat)(s:ByteArray)(i:Nat):tokAt eS eL eR s i=⟨i,bs (tokL eS eL eR ((byl s).drop i)).1,(tokL eS eL eR ((byl s).drop i)).2⟩:=by
 unfold tokAt
 rw[qg6]
 cases hd:(byl s).drop i with
 |nil=>rfl
 |cons c r=>
  have hlen:s.size-i=r.length+1:=by
   have:=congrArg List.length hd
   rw[W4,qaA,We] at this
   exact this
  have e1 : ∀ p,s.extract i (qtj p s (s.size-i) i)=bs ((c::r).take (qbF p (c::r))):=fun p=>by
   rw[qqs p s _ i (Wk _),qcA,hd]
  have e2:s.extract i (i+2)=bs ((c::r).take 2):=by rw[qcA,hd]
  have e3:s.extract i (i+1)=bs [c]:=by rw[qcA,hd]; rfl
  have hw : ∀ p,((c::r).take (qbF p (c::r))).length=qbF p (c::r):=fun p=>by
   rw[WR,Nat.min_eq_left (qf7 p _)]
  simp only[List.head?_cons,e1,e2,e3,tokL,qbq,hw,qdk,ByteArray.toList_eq]
  split
  ·rfl
  split
  ·simp[bs]
  have e4:(i+2<=s.size/\bs ((c::r).take 2)∈qd7)↔bs ((c::r).take 2)∈qd7:=by
   refine⟨fun h=>h.2,fun h=>⟨?_,h⟩⟩
   have:=qfx h
   rw[qbq,WR,We] at this
   omega
  simp only[e4]
  split
  ·rfl
  split<;>rfl
theorem qnB(eS eL eR:Nat)(s:ByteArray) : ∀ (n i:Nat),qcf eS eL eR s n i=qtb eS eL eR n i ((byl s).drop i)
 |0,i=>rfl
 |n+1,i=>by
  rw[qcf,qtb]
  simp only[qkx s _ false i (Nat.le_refl _),qdV,qbq,<- List.drop_drop,qnB eS eL eR s n,List.drop_drop]
end
section
def qdI(p:Bool)(t:ByteArray):Bool:=match (byl t).getLast? with
 |some c=>qaL c
 |none=>p
def gap(p:Bool)(t:ByteArray):List UInt8:=if p&&qaG qaL t then [32] else []
def qfI:Bool->List ByteArray->List UInt8
 |_,[]=>[]
 |p,t::ts=>gap p t++(byl t++qfI (qdI p t) ts)
theorem qbM(p:UInt8->Bool)(t:ByteArray):qaG p t=match (byl t).head? with|some c=>p c|none=>false:=by
 unfold qaG
 rw[qg6,WO]
 all_goals (cases (byl t).head?<;>rfl)
def Tg(w:List UInt8):Prop:=
 (∃ c r,w=c::r/\qaW c=true/\(∀ b∈r,qaL b=true) /\ ¬ (8<w.length/\bs w∉fieldNames/\bs w∉wordNames)) \/
 (∃ c r,w=c::r/\qav c=true/\(∀ b∈r,qav b=true)/\digV w<=2147483647) \/
 bs w∈qd7 \/ ∃ c,w=[c]/\c.toNat∈qj2
def Fol:List UInt8->List UInt8->Prop
 |c::r,d::_=>if qaW c then qaL d=false else if qav c then qav d=false else r=[]->bs [c,d]∉qd7
 |_,_=>True
theorem qkf(p:UInt8->Bool) : ∀ (w r:List UInt8),(∀ b∈w,p b=true)->(∀ d,r.head?=some d->p d=false)->qbF p (w++r)=w.length
 |[],[],_,_=>rfl
 |[],d::r,_,h=>by simp[qbF,h d rfl]
 |b::w,r,h,h2=>by
  simp only[Wh,qbF,h b (WT ..),if_true,We]
  rw[qkf p w r (fun x hx=>h x (WF _ hx)) h2]
theorem qm7{c:UInt8}(h:qaW c=true):qaL c=true:=by simp[qaL,h]
theorem qm8{c:UInt8}(h:qav c=true):qaL c=true:=by simp[qaL,h]
theorem pair_cases{w:List UInt8}(h:bs w∈qd7):w=[124,124]\/w=[38,38]\/w=[60,61]\/w=[62,61]\/w=[61,61]\/w=[33,61]:=by
 simp only[qd7,Wq,Ww,or_false] at h
 rcases h with h|h|h|h|h|h<;>have:=qlE h<;>simp[this]
theorem qe2{c:UInt8}(h:c.toNat∈qj2):c=123\/c=125\/c=91\/c=93\/c=40\/c=41\/c=61\/c=59\/c=44\/c=60\/c=62\/c=43\/c=45\/c=42\/c=47\/c=33:=by
 simp only[qj2,Wq,Ww,or_false] at h
 simp only[<- UInt8.toNat_inj]
 exact h
theorem qpB(eS eL eR:Nat){w rest:List UInt8}(h:Tg w)(hf:Fol w rest):tokL eS eL eR (w++rest)=(w,0):=by
 have take_len : ∀ k,k=w.length->(w++rest).take k=w:=fun k hk=>by rw[hk,List.take_left]
 rcases h with ⟨c,r,rfl,hc,hr,hb⟩|⟨c,r,rfl,hc,hr,hb⟩|hp|⟨c,rfl,hc⟩
 ·have hrun:qbF qaL (c::r++rest)=(c::r).length:=by
   apply qkf
   ·intro b hb'
    rcases Wq.1 hb' with rfl|hb'
    ·exact qm7 hc
    ·exact hr b hb'
   ·intro d hd
    cases rest with
    |nil=>cases hd
    |cons e rest=>
     cases hd
     simp only[Fol,hc,if_true] at hf
     exact hf
  have ht:=take_len _ rfl
  simp only[Wh] at hrun ht ⊢
  simp only[tokL,hc,if_true,hrun,ht,if_neg hb]
 ·have hnl:qaW c=false:=by
   simp only[qav,qaW,Wu,decide_eq_true_eq,W0,decide_eq_false_iff_not] at hc ⊢
   omega
  have hrun:qbF qav (c::r++rest)=(c::r).length:=by
   apply qkf
   ·intro b hb'
    rcases Wq.1 hb' with rfl|hb'
    ·exact hc
    ·exact hr b hb'
   ·intro d hd
    cases rest with
    |nil=>cases hd
    |cons e rest=>
     cases hd
     simp only[Fol,hc,hnl,if_true] at hf
     exact hf
  have ht:=take_len _ hrun
  simp only[Wh] at hrun ht ⊢
  simp only[tokL,hc,hnl,if_true,ht,if_neg (YJ.2 hb)]
  simp
 ·rcases pair_cases hp with rfl|rfl|rfl|rfl|rfl|rfl<;>simp[tokL,qaW,qav,hp]
 ·have h2:bs ((c::rest).take 2)∉qd7:=by
   cases rest with
   |nil=>intro h; have:=qfx h; rw[qbq] at this; simp at this
   |cons d rest=>
    have hl:qaW c=false/\qav c=false:=by rcases qe2 hc with rfl|rfl|rfl|rfl|rfl|rfl|rfl|rfl|rfl|rfl|rfl|rfl|rfl|rfl|rfl|rfl<;>exact⟨rfl,rfl⟩
    simp only[Fol,hl.1,hl.2] at hf
    simpa using hf
  have hl:qaW c=false/\qav c=false:=by rcases qe2 hc with rfl|rfl|rfl|rfl|rfl|rfl|rfl|rfl|rfl|rfl|rfl|rfl|rfl|rfl|rfl|rfl<;>exact⟨rfl,rfl⟩
  simp only[Wh,Wf,tokL,hl.1,hl.2,if_neg h2,if_pos hc,Wo,if_false]
theorem qfU{w:List UInt8}(h:Tg w) : ∃ c r,w=c::r/\c.toNat≠10/\c.toNat≠32/\c.toNat≠9/\c.toNat≠35:=by
 rcases h with ⟨c,r,rfl,hc,hr,hb⟩|⟨c,r,rfl,hc,hr,hb⟩|hp|⟨c,rfl,hc⟩
 ·simp only[qaW,Wu,decide_eq_true_eq] at hc
  exact⟨c,r,rfl,by omega,by omega,by omega,by omega⟩
 ·simp only[qav,Wu,decide_eq_true_eq] at hc
  exact⟨c,r,rfl,by omega,by omega,by omega,by omega⟩
 ·rcases pair_cases hp with rfl|rfl|rfl|rfl|rfl|rfl<;>exact⟨_,_,rfl,by decide,by decide,by decide,by decide⟩
 ·rcases qe2 hc with rfl|rfl|rfl|rfl|rfl|rfl|rfl|rfl|rfl|rfl|rfl|rfl|rfl|rfl|rfl|rfl<;>exact⟨_,_,rfl,by decide,by decide,by decide,by decide⟩
def Adj(t u:ByteArray):Prop:=(t≠bs [60]/\t≠bs [62]/\t≠bs [61]/\t≠bs [33])\/(byl u).head?≠some 61
def Ok2:List ByteArray->Prop
 |[]=>True
 |t::r=>Tg (byl t)/\(∀ u,r.head?=some u->Adj t u)/\Ok2 r
theorem qpC{w:List UInt8}{p:Bool}(h:bs w∈qd7 \/ ∃ c,w=[c]/\c.toNat∈qj2):qdI p (bs w)=false:=by
 unfold qdI
 rw[qdk]
 rcases h with hp|⟨c,rfl,hc⟩
 ·rcases pair_cases hp with rfl|rfl|rfl|rfl|rfl|rfl<;>rfl
 ·rcases qe2 hc with rfl|rfl|rfl|rfl|rfl|rfl|rfl|rfl|rfl|rfl|rfl|rfl|rfl|rfl|rfl|rfl<;>rfl
theorem qn9{w:List UInt8}{p:Bool}(h : ∃ c r,w=c::r/\qaL c=true /\ ∀ b∈r,qaL b=true):qdI p (bs w)=true:=by
 obtain⟨c,r,rfl,hc,hr⟩:=h
 unfold qdI
 rw[qdk]
 cases hl:(c::r).getLast? with
 |none=>simp at hl
 |some b=>
  have:=List.mem_of_getLast? hl
  rcases Wq.1 this with rfl|h
  ·exact hc
  ·exact hr b h
theorem qrx{p:Bool}{t u:ByteArray}(ht:Tg (byl t))(hu:Tg (byl u))(ha:Adj t u)(r:List UInt8):Fol (byl t) (gap (qdI p t) u++(byl u++r)):=by
 obtain⟨d,w,hd,-⟩:=qfU hu
 have hs:qaG qaL u=qaL d:=by rw[qbM,hd]; rfl
 have hword:(∃ c r,byl t=c::r/\qaL c=true /\ ∀ b∈r,qaL b=true) -> ∀ e q,gap (qdI p t) u++(byl u++r)=e::q->qaL e=false:=fun h e q he=>by
  have h1:qdI p t=true:=by
   have:=qn9 (p:=p) h
   rwa [qfM] at this
  rw[h1,gap,hs,hd] at he
  cases hwd:qaL d with
  |true=>simp[hwd] at he; rw[<- he.1]; rfl
  |false=>simp[hwd] at he; rw[<- he.1]; exact hwd
 cases he:gap (qdI p t) u++(byl u++r) with
 |nil=>cases byl t<;>trivial
 |cons e q=>
  rcases ht with ⟨c,r',hw,hc,hr,hb⟩|⟨c,r',hw,hc,hr,hb⟩|hp|⟨c,hw,hc⟩
  ·have:=hword ⟨c,r',hw,qm7 hc,hr⟩ e q he
   rw[hw]
   simp only[Fol,hc,if_true]
   exact this
  ·have:=hword ⟨c,r',hw,qm8 hc,fun b h=>qm8 (hr b h)⟩ e q he
   rw[hw]
   have hnl:qaW c=false:=by
    simp only[qav,qaW,Wu,decide_eq_true_eq,W0,decide_eq_false_iff_not] at hc ⊢
    omega
   simp only[Fol,hc,hnl,if_true]
   simp only[qaL,Bool.or_eq_false_iff] at this
   exact this.2
  ·rcases pair_cases hp with h|h|h|h|h|h<;>rw[h]<;>simp[Fol,qaW,qav]
  ·have h1:qdI p t=false:=by
    have:=qpC (p:=p) (.inr ⟨c,hw,hc⟩)
    rwa [qfM] at this
   rw[h1,gap,hd] at he
   simp at he
   have hed:e=d:=he.1.symm
   rw[hw]
   have hl:qaW c=false/\qav c=false:=by rcases qe2 hc with rfl|rfl|rfl|rfl|rfl|rfl|rfl|rfl|rfl|rfl|rfl|rfl|rfl|rfl|rfl|rfl<;>exact⟨rfl,rfl⟩
   simp only[Fol,hl.1,hl.2]
   simp only[Wo,if_false]
   intro _ hpr
   have htb:t=bs [c]:=by rw[<- qfM t,hw]
   rw[hed] at hpr
   rcases ha with ⟨a1,a2,a3,a4⟩|ha
   ·rcases pair_cases hpr with h|h|h|h|h|h<;>simp only[WG,and_true] at h
    ·rw[h.1] at hc; simp[qj2] at hc
    ·rw[h.1] at hc; simp[qj2] at hc
    ·exact a1 (by rw[htb,h.1])
    ·exact a2 (by rw[htb,h.1])
    ·exact a3 (by rw[htb,h.1])
    ·exact a4 (by rw[htb,h.1])
   ·rw[hd] at ha
    simp only[List.head?_cons] at ha
    rcases pair_cases hpr with h|h|h|h|h|h<;>simp only[WG,and_true] at h
    ·rw[h.1] at hc; simp[qj2] at hc
    ·rw[h.1] at hc; simp[qj2] at hc
    ·exact ha (by rw[h.2])
    ·exact ha (by rw[h.2])
    ·exact ha (by rw[h.2])
    ·exact ha (by rw[h.2])
end
section
variable{eS eL eD:Nat}{f fi fb:Bool}
theorem qey : ∀ n:Nat,
  (∀ p lv ts x,qas eS eL f n p lv ts=some x->qas eS eL f (n+1) p lv ts=some x) /\
  (∀ p lv e ts x,qcN eS eL f n p lv e ts=some x->qcN eS eL f (n+1) p lv e ts=some x) /\
  (∀ lv ts x,qce eS eL f n lv ts=some x->qce eS eL f (n+1) lv ts=some x)
 |0=>⟨fun p lv ts x h=>by simp[qas] at h,fun p lv e ts x h=>by simp[qcN] at h,fun lv ts x h=>by simp[qce] at h⟩
 |n+1=>by
  obtain⟨ihe,ihl,ihi⟩:=qey n
  refine⟨fun p lv ts x h=>?_,fun p lv e ts x h=>?_,fun lv ts x h=>?_⟩
  ·rw[qas] at h ⊢
   split at h
   ·rename_i c1
    rw[if_pos c1]
    cases ho:qd8 eS eL (ustr (p==7)) (lv+1) ts with
    |er i c=>simp only[ho] at h ⊢; exact h
    |ok u r=>
     simp only[ho] at h ⊢
     cases hq:qas eS eL f n p (lv+1) r with
     |none=>simp[hq] at h
     |some y=>rw[ihe _ _ _ _ hq]; rw[hq] at h; exact h
   ·rename_i c1
    rw[if_neg c1]
    split at h
    ·rename_i c2
     rw[if_pos c2]
     cases hq:qas eS eL f n (p+1) lv ts with
     |none=>simp[hq] at h
     |some y=>
      rw[ihe _ _ _ _ hq]; rw[hq] at h
      cases y with
      |er i c=>exact h
      |ok e r=>exact ihl _ _ _ _ _ h
    ·rename_i c2
     rw[if_neg c2]
     cases hn:nx ts with
     |none=>simp only[hn] at h ⊢; exact h
     |some s=>
      simp only[hn] at h ⊢
      split at h
      ·rename_i c; rw[if_pos c]; exact h
      rename_i c; rw[if_neg c]
      split at h
      ·rename_i c; rw[if_pos c]; exact h
      rename_i c; rw[if_neg c]
      split at h
      ·rename_i c; rw[if_pos c]; exact h
      rename_i c; rw[if_neg c]
      split at h
      ·rename_i c; rw[if_pos c]; exact h
      rename_i c; rw[if_neg c]
      split at h
      ·rename_i c; rw[if_pos c]
       cases hq:qce eS eL f n lv ts.tail with
       |none=>simp[hq] at h
       |some y=>rw[ihi _ _ _ hq]; rw[hq] at h; exact h
      rename_i c; rw[if_neg c]
      split at h
      ·rename_i c; rw[if_pos c]; exact h
      rename_i c; rw[if_neg c]
      cases ho:qd8 eS eL (bs [40]) (lv+1) ts with
      |er i c=>simp only[ho] at h ⊢; exact h
      |ok u r=>
       simp only[ho] at h ⊢
       cases hq:qas eS eL f n 1 (lv+1) r with
       |none=>simp[hq] at h
       |some y=>rw[ihe _ _ _ _ hq]; rw[hq] at h; exact h
  ·rw[qcN] at h ⊢
   cases hn:nx ts with
   |none=>simp only[hn] at h ⊢; exact h
   |some s=>
    simp only[hn] at h ⊢
    cases ho:qlZ p s with
    |none=>simp only[ho] at h ⊢; exact h
    |some o=>
     simp only[ho] at h ⊢
     cases hq:qas eS eL f n (p+1) lv ts.tail with
     |none=>simp[hq] at h
     |some y=>
      rw[ihe _ _ _ _ hq]; rw[hq] at h
      cases y with
      |er i c=>exact h
      |ok e' r=>
       simp only at h ⊢
       split at h
       ·rename_i c; rw[if_pos c]; exact h
       ·rename_i c; rw[if_neg c]; exact ihl _ _ _ _ _ h
  ·rw[qce] at h ⊢
   cases ho:qd8 eS eL (bs [91]) (lv+1) ts with
   |er i c=>simp only[ho] at h ⊢; exact h
   |ok u r=>
    simp only[ho] at h ⊢
    cases hq:qas eS eL f n 1 (lv+1) r with
    |none=>simp[hq] at h
    |some y=>rw[ihe _ _ _ _ hq]; rw[hq] at h; exact h
theorem qa9{n m p lv:Nat}{ts:List Tk}{x:Rz E}(h:qas eS eL f n p lv ts=some x)(hm:n<=m):qas eS eL f m p lv ts=some x:=by
 induction hm with
 |refl=>exact h
 |step _ ih=>exact (qey _).1 _ _ _ _ ih
theorem qjl{n m p lv:Nat}{e:E}{ts:List Tk}{x:Rz E}(h:qcN eS eL f n p lv e ts=some x)(hm:n<=m):qcN eS eL f m p lv e ts=some x:=by
 induction hm with
 |refl=>exact h
 |step _ ih=>exact (qey _).2.1 _ _ _ _ _ ih
theorem qil{n m lv:Nat}{ts:List Tk}{x:Rz E}(h:qce eS eL f n lv ts=some x)(hm:n<=m):qce eS eL f m lv ts=some x:=by
 induction hm with
 |refl=>exact h
 |step _ ih=>exact (qey _).2.2 _ _ _ ih
theorem qez : ∀ n:Nat,
  (∀ lv ts x,qdm eS eL f fi fb n lv ts=some x->qdm eS eL f fi fb (n+1) lv ts=some x) /\
  (∀ lv ts x,qbu eS eL f fi fb n lv ts=some x->qbu eS eL f fi fb (n+1) lv ts=some x) /\
  (∀ lv a ts x,qcJ eS eL f fi fb n lv a ts=some x->qcJ eS eL f fi fb (n+1) lv a ts=some x)
 |0=>⟨fun lv ts x h=>by simp[qdm] at h,fun lv ts x h=>by simp[qbu] at h,fun lv a ts x h=>by simp[qcJ] at h⟩
 |n+1=>by
  obtain⟨ihs,ihb,ihl⟩:=qez n
  refine⟨fun lv ts x h=>?_,fun lv ts x h=>?_,fun lv a ts x h=>?_⟩
  ·have second : ∀ (r:List Tk) (g:E->Ss) y,(match qas eS eL f n 1 lv r with
      |some (.ok b r2)=>some (qbX eS (g b) r2)
      |some (.er i k)=>some (.er i k)
      |none=>none)=some y->(match qas eS eL f (n+1) 1 lv r with
      |some (.ok b r2)=>some (qbX eS (g b) r2)
      |some (.er i k)=>some (.er i k)
      |none=>none)=some y:=fun r g y hy=>by
     cases hq:qas eS eL f n 1 lv r with
     |none=>simp[hq] at hy
     |some z=>rw[qa9 hq (Yu n)]; rw[hq] at hy; exact hy
   rw[qdm] at h ⊢
   cases hn:nx ts with
   |none=>simp only[hn] at h ⊢; exact h
   |some s=>
    simp only[hn] at h ⊢
    split at h
    ·rename_i c; rw[if_pos c]
     cases hq:qas eS eL f n 1 lv ts.tail with
     |none=>simp[hq] at h
     |some y=>
      rw[qa9 hq (Yu n)]; rw[hq] at h
      cases y with
      |er i c=>exact h
      |ok e r=>
       simp only at h ⊢
       cases hb:qbu eS eL f fi fb n (lv+1) r with
       |none=>simp[hb] at h
       |some z=>
        rw[ihb _ _ _ hb]; rw[hb] at h
        cases z with
        |er i c=>exact h
        |ok b r1=>
         simp only at h ⊢
         cases hn1:nx r1 with
         |none=>simp only[hn1] at h ⊢; exact h
         |some w=>
          simp only[hn1] at h ⊢
          split at h
          ·rename_i c'; rw[if_pos c']
           cases hb2:qbu eS eL f fi fb n (lv+1) r1.tail with
           |none=>simp[hb2] at h
           |some z2=>rw[ihb _ _ _ hb2]; rw[hb2] at h; exact h
          ·rename_i c'; rw[if_neg c']; exact h
    rename_i c; rw[if_neg c]
    split at h
    ·rename_i c; rw[if_pos c]
     cases hq:qas eS eL f n 1 lv ts.tail with
     |none=>simp[hq] at h
     |some y=>
      rw[qa9 hq (Yu n)]; rw[hq] at h
      cases y with
      |er i c=>exact h
      |ok e r=>
       simp only at h ⊢
       cases hb:qbu eS eL f fi fb n (lv+1) r with
       |none=>simp[hb] at h
       |some z=>rw[ihb _ _ _ hb]; rw[hb] at h; exact h
    rename_i c; rw[if_neg c]
    split at h
    ·rename_i c; rw[if_pos c]
     cases hq:qas eS eL f n 1 lv ts.tail with
     |none=>simp[hq] at h
     |some y=>
      rw[qa9 hq (Yu n)]; rw[hq] at h
      cases y with
      |er i c=>exact h
      |ok e r=>
       simp only at h ⊢
       cases hx:qaQ eS (bs [44]) r with
       |er i c=>simp only[hx] at h ⊢; exact h
       |ok u r1=>simp only[hx] at h ⊢; exact second r1 (fun b => .effect f e b .nil) x h
    rename_i c; rw[if_neg c]
    split at h
    ·rename_i c; rw[if_pos c]; exact h
    rename_i c; rw[if_neg c]
    split at h
    ·rename_i c; rw[if_pos c]
     cases hq:qce eS eL f n lv ts.tail with
     |none=>simp[hq] at h
     |some y=>
      rw[qil hq (Yu n)]; rw[hq] at h
      cases y with
      |er i c=>exact h
      |ok e r=>
       simp only at h ⊢
       cases hx:qaQ eS (bs [61]) r with
       |er i c=>simp only[hx] at h ⊢; exact h
       |ok u r1=>simp only[hx] at h ⊢; exact second r1 (fun b => .store f s e b .nil) x h
    rename_i c; rw[if_neg c]
    split at h
    ·rename_i c; rw[if_pos c]
     cases hx:qaQ eS (bs [61]) ts.tail with
     |er i c=>simp only[hx] at h ⊢; exact h
     |ok u r1=>simp only[hx] at h ⊢; exact second r1 (fun b => .assign f s b .nil) x h
    ·rename_i c; rw[if_neg c]; exact h
  ·rw[qbu] at h ⊢
   cases ho:qd8 eS eL (bs [123]) lv ts with
   |er i c=>simp only[ho] at h ⊢; exact h
   |ok u r=>simp only[ho] at h ⊢; exact ihl _ _ _ _ h
  ·rw[qcJ] at h ⊢
   cases hn:nx ts with
   |none=>simp only[hn] at h ⊢; exact h
   |some s=>
    simp only[hn] at h ⊢
    split at h
    ·rename_i c; rw[if_pos c]; exact h
    ·rename_i c; rw[if_neg c]
     cases hq:qdm eS eL f fi fb n lv ts with
     |none=>simp[hq] at h
     |some y=>
      rw[ihs _ _ _ hq]; rw[hq] at h
      cases y with
      |er i c=>exact h
      |ok b r=>exact ihl _ _ _ _ h
theorem qjm{n m lv:Nat}{ts:List Tk}{x:Rz Ss}(h:qdm eS eL f fi fb n lv ts=some x)(hm:n<=m):qdm eS eL f fi fb m lv ts=some x:=by
 induction hm with
 |refl=>exact h
 |step _ ih=>exact (qez _).1 _ _ _ ih
theorem qcS{n m lv:Nat}{ts:List Tk}{x:Rz Ss}(h:qbu eS eL f fi fb n lv ts=some x)(hm:n<=m):qbu eS eL f fi fb m lv ts=some x:=by
 induction hm with
 |refl=>exact h
 |step _ ih=>exact (qez _).2.1 _ _ _ ih
theorem qme{n m lv:Nat}{a:Ss}{ts:List Tk}{x:Rz Ss}(h:qcJ eS eL f fi fb n lv a ts=some x)(hm:n<=m):qcJ eS eL f fi fb m lv a ts=some x:=by
 induction hm with
 |refl=>exact h
 |step _ ih=>exact (qez _).2.2 _ _ _ _ ih
theorem qim : ∀ (n:Nat) h ts x,qdO eS eL eD f fi fb n h ts=some x->qdO eS eL eD f fi fb (n+1) h ts=some x
 |0,h,ts,x,e=>by simp[qdO] at e
 |n+1,h,ts,x,e=>by
  rw[qdO] at e ⊢
  cases hn:nx ts with
  |none=>simp only[hn] at e ⊢; exact e
  |some s=>
   simp only[hn] at e ⊢
   split at e
   ·rename_i c; rw[if_pos c]; exact e
   rename_i c; rw[if_neg c]
   cases hx:qaQ eS (bs [111,110]) ts with
   |er i c=>simp only[hx] at e ⊢; exact e
   |ok u r=>
    simp only[hx] at e ⊢
    cases hn2:nx r with
    |none=>simp only[hn2] at e ⊢; exact e
    |some w=>
     simp only[hn2] at e ⊢
     cases hh:qbZ w with
     |none=>simp only[hh] at e ⊢; exact e
     |some k=>
      simp only[hh] at e ⊢
      split at e
      ·rename_i c; rw[if_pos c]; exact e
      rename_i c; rw[if_neg c]
      cases hb:qbu eS eL f fi fb n 1 r.tail with
      |none=>simp[hb] at e
      |some y=>
       rw[qcS hb (Yu n)]; rw[hb] at e
       cases y with
       |er i c=>exact e
       |ok b r1=>exact qim n _ _ _ e
theorem qgV{n m:Nat}{h:Nat->Option Ss}{ts:List Tk}{x:Rz (Nat->Option Ss)}(e:qdO eS eL eD f fi fb n h ts=some x)(hm:n<=m):qdO eS eL eD f fi fb m h ts=some x:=by
 induction hm with
 |refl=>exact e
 |step _ ih=>exact qim _ _ _ _ ih
end
section
def qrI:Nat->Nat->List UInt8
 |0,_=>[]
 |k+1,n=>if n<10 then [(48+n).toUInt8] else qrI k (n / 10)++[(48+n % 10).toUInt8]
def decB(n:Nat):List UInt8:=qrI 20 n
theorem qzA : ∀ d,d<10->((48+d).toUInt8).toNat=48+d:=by decide
theorem qrJ(l:List UInt8)(c:UInt8):digV (l++[c])=10*digV l+(c.toNat-48):=by simp[digV]
theorem qlr : ∀ k n,n<10 ^ k->1<=k->digV (qrI k n)=n/\(∀ b∈qrI k n,qav b=true) /\ ∃ c r,qrI k n=c::r
 |0,n,_,h=>by omega
 |k+1,n,h,_=>by
  rw[qrI]
  split
  ·rename_i hn
   have h1:=qzA n hn
   refine⟨by simp only[digV,W6,List.foldl_nil,h1]; omega,fun b hb=>?_,_,_,rfl⟩
   rw[Wg.1 hb]
   simp only[qav,h1,Wu,decide_eq_true_eq]
   omega
  ·rename_i hn
   have h1:=qzA (n % 10) (by omega)
   have hk:1<=k:=by
    rcases k with _|k
    ·simp at h; omega
    ·omega
   obtain⟨i1,i2,c,r,i3⟩:=qlr k (n / 10) (by rw[Nat.pow_succ] at h; omega) hk
   refine⟨by rw[qrJ,i1,h1]; omega,fun b hb=>?_,c,r++[(48+n % 10).toUInt8],by rw[i3]; rfl⟩
   rcases Wr.1 hb with hb|hb
   ·exact i2 b hb
   ·rw[Wg.1 hb]
    simp only[qav,h1,Wu,decide_eq_true_eq]
    omega
theorem qgA{n:Nat}(h:n<10 ^ 20):digV (decB n)=n/\(∀ b∈decB n,qav b=true) /\ ∃ c r,decB n=c::r:=qlr 20 n h (by omega)
theorem qut{n:Nat}(h:n<=2147483647):Tg (decB n):=by
 obtain⟨h1,h2,c,r,h3⟩:=qgA (n:=n) (by omega)
 rw[h3] at h1 h2 ⊢
 exact .inr (.inl ⟨c,r,rfl,h2 c (WT ..),fun b hb=>h2 b (WF _ hb),by omega⟩)
theorem qkk{n:Nat}(h:n<=2147483647):qaG qav (bs (decB n))=true:=by
 obtain⟨h1,h2,c,r,h3⟩:=qgA (n:=n) (by omega)
 rw[qbM,qdk,h3]
 rw[h3] at h2
 exact h2 c (WT ..)
def qls:ByteArray:=bs [116,114,117,101]
def qhr:ByteArray:=bs [102,97,108,115,101]
def qxl:ByteArray:=bs [115,101,108,102]
def qsQ:ByteArray:=bs [111,116,104,101,114]
def qiT:ByteArray:=bs [116,105,99,107]
def Bop.prec:Bop->Nat
 |.or=>1 | .and=>2 | .lt | .le | .gt | .ge | .eq | .ne=>4 | .add | .sub=>5 | .mul | .div=>6
def qeO(neg:Bool):Nat:=if neg then 7 else 3
def qdo(b:Bool)(l:List ByteArray):List ByteArray:=if b then bs [40]::(l++[bs [41]]) else l
def Bop.left(o:Bop):Nat:=if o.prec=4 then 5 else o.prec
def E.tx(full:Bool):E->Nat->List ByteArray
 |.int n,_=>[bs (decB n.toNat)]
 |.bool n,_=>[if n=0 then qhr else qls]
 |.var s,_=>[s]
 |.name s,_=>[s]
 |.field _ s e,_=>s::bs [91]::(e.tx full 1++[bs [93]])
 |.un _ neg e,p=>qdo (full||decide (qeO neg<p)) (ustr neg::e.tx full (qeO neg))
 |.bin _ o a b,p=>qdo (full||decide (o.prec<p)) (a.tx full o.left++o.str::b.tx full (o.prec+1))
def E.nest(full:Bool):E->Nat->Nat
 |.field _ _ e,_=>e.nest full 1+1
 |.un _ neg e,p=>e.nest full (qeO neg)+1+if (full||decide (qeO neg<p))=true then 1 else 0
 |.bin _ o a b,p=>max (a.nest full o.left) (b.nest full (o.prec+1))+if (full||decide (o.prec<p))=true then 1 else 0
 |_,_=>0
def E.good:E->Prop
 |.int n=>0<=n/\n<=2147483647
 |.bool n=>n=0\/n=1
 |.var s=>Tg (byl s)/\qaG qaW s=true/\s∉fieldNames/\s∉wordNames
 |.name s=>s=qxl\/s=qsQ\/s=qiT
 |.field _ s e=>s∈fieldNames/\e.good
 |.un _ _ e=>e.good
 |.bin _ _ a b=>a.good/\b.good
def E.fl(f:Bool):E->E
 |.int n => .int n
 |.bool n => .bool n
 |.var s => .var s
 |.name s => .name s
 |.field _ s e => .field f s (e.fl f)
 |.un _ neg e => .un f neg (e.fl f)
 |.bin _ o a b => .bin f o (a.fl f) (b.fl f)
theorem qbV(o:Bop):(o.prec=1/\o.left=1)\/(o.prec=2/\o.left=2)\/(o.prec=4/\o.left=5)\/(o.prec=5/\o.left=5)\/(o.prec=6/\o.left=6):=by cases o<;>simp[Bop.prec,Bop.left]
def Hx:List ByteArray->List Tk->List Tk->Prop
 |[],ts,r=>ts=r
 |x::l,ts,r => ∃ t q,ts=t::q/\t.s=x/\t.bad=0/\Hx l q r
theorem hx_app : ∀ {a b:List ByteArray} {ts r:List Tk},Hx (a++b) ts r ↔ ∃ m,Hx a ts m/\Hx b m r
 |[],b,ts,r=>⟨fun h=>⟨ts,rfl,h⟩,fun ⟨m,h1,h2⟩=>by cases h1; exact h2⟩
 |x::a,b,ts,r=>by
  simp only[Wh,Hx]
  constructor
  ·rintro ⟨t,q,h1,h2,h3,h4⟩
   obtain⟨m,h5,h6⟩:=hx_app.1 h4
   exact⟨m,⟨t,q,h1,h2,h3,h5⟩,h6⟩
  ·rintro ⟨m,⟨t,q,h1,h2,h3,h5⟩,h6⟩
   exact⟨t,q,h1,h2,h3,hx_app.2 ⟨m,h5,h6⟩⟩
theorem qcd{x:ByteArray}{l:List ByteArray}{ts r:List Tk}(h:Hx (x::l) ts r):nx ts=some x/\Hx l ts.tail r:=by
 obtain⟨t,q,h1,h2,h3,h4⟩:=h
 subst h1
 simp[nx,h3,h2]
 exact h4
theorem qcD{eS:Nat}{x:ByteArray}{l:List ByteArray}{ts r:List Tk}(h:Hx (x::l) ts r):qaQ eS x ts = .ok () ts.tail:=by
 obtain⟨t,q,h1,h2,h3,h4⟩:=h
 subst h1
 simp[qaQ,h3,h2]
theorem qfY{eS eL lv:Nat}{x:ByteArray}{l:List ByteArray}{ts r:List Tk}(h:Hx (x::l) ts r)(hl:lv<=20):qd8 eS eL x lv ts = .ok () ts.tail:=by
 rw[qd8,if_neg (by omega)]
 exact qcD h
def Stops(p:Nat)(r:List Tk):Prop := ∃ s,nx r=some s /\ ∀ q,p<=q->qlZ q s=none
theorem Stops.mono{p q:Nat}{r:List Tk}(h:Stops p r)(hq:p<=q):Stops q r:=by
 obtain⟨s,h1,h2⟩:=h
 exact⟨s,h1,fun k hk=>h2 k (by omega)⟩
theorem qrK(o:Bop):qlZ o.prec o.str=some o:=by cases o<;>rfl
theorem qoe(o:Bop)(q:Nat)(h:q≠o.prec):qlZ q o.str=none:=by
 rcases q with _|_|_|_|_|_|_|q
 all_goals first|rfl|skip
 all_goals cases o<;>first|rfl|exact absurd rfl h
theorem qmi(full:Bool) : ∀ (e:E),e.good -> ∀ p,∃ x l,e.tx full p=x::l/\(x=ustr false->p<=3)/\(x=ustr true->p<=7)
 |.int n,h,p=>by
  have hd:=qkk (n:=n.toNat) (by have:=h.1; have:=h.2; omega)
  refine⟨_,_,rfl,fun hx=>?_,fun hx=>?_⟩
  all_goals
   rw[hx] at hd
   exact absurd hd (by decide)
 |.bool n,h,p=>by
  refine⟨_,_,rfl,fun hx=>?_,fun hx=>?_⟩
  all_goals split at hx<;>exact absurd hx (by decide)
 |.var s,h,p=>by
  refine⟨_,_,rfl,fun hx=>?_,fun hx=>?_⟩
  all_goals
   have:=h.2.1
   rw[hx] at this
   exact absurd this (by decide)
 |.name s,h,p=>by
  refine⟨_,_,rfl,fun hx=>?_,fun hx=>?_⟩
  all_goals rcases h with rfl|rfl|rfl<;>exact absurd hx (by decide)
 |.field f s e,h,p=>by
  refine⟨_,_,rfl,fun hx=>?_,fun hx=>?_⟩
  all_goals
   have:=h.1
   rw[hx] at this
   exact absurd this (by decide)
 |.un f neg e,h,p=>by
  simp only[E.tx,qdo]
  split
  ·exact⟨_,_,rfl,fun hx=>absurd hx (by decide),fun hx=>absurd hx (by decide)⟩
  ·rename_i hc
   simp only[Yb,not_or,decide_eq_true_eq,YJ] at hc
   refine⟨_,_,rfl,fun hx=>?_,fun hx=>?_⟩
   ·cases neg with
    |true=>exact absurd hx (by decide)
    |false=>exact hc.2
   ·cases neg with
    |true=>exact hc.2
    |false=>exact absurd hx (by decide)
 |.bin f o a b,h,p=>by
  simp only[E.tx,qdo]
  split
  ·exact⟨_,_,rfl,fun hx=>absurd hx (by decide),fun hx=>absurd hx (by decide)⟩
  ·rename_i hc
   simp only[Yb,not_or,decide_eq_true_eq,YJ] at hc
   obtain⟨x,l,h1,h2,h3⟩:=qmi full a h.1 o.left
   refine⟨x,l++o.str::b.tx full (o.prec+1),by rw[h1]; rfl,fun hx=>?_,fun hx=>?_⟩
   ·have:=h2 hx; have:=hc.2
    rcases qbV o with h|h|h|h|h<;>omega
   ·have:=h3 hx; have:=hc.2
    rcases qbV o with h|h|h|h|h<;>omega
section
variable{eS eL:Nat}{f:Bool}
theorem qpJ {n q lv:Nat} {ts r:List Tk} {e:E} (h:qas eS eL f n q lv ts=some (.ok e r)) (hq:q<=8) : ∀ (k p:Nat),p+k=q->1<=p->Stops p r ->
  (p<=3->3<q->nx ts≠some (ustr false))->(p<=7->7<q->nx ts≠some (ustr true)) -> ∃ m,qas eS eL f m p lv ts=some (.ok e r)
 |0,p,hp,h1,_,_,_=>⟨n,by rw[show p=q by omega]; exact h⟩
 |k+1,p,hp,h1,hs,h3,h7=>by
  obtain⟨m,hm⟩:=qpJ h hq k (p+1) (by omega) (by omega) (hs.mono (by omega)) (fun a b=>h3 (by omega) b) (fun a b=>h7 (by omega) b)
  refine⟨m+2,?_⟩
  rw[qas,if_neg,if_pos (by omega),qa9 hm (Yu m)]
  ·obtain⟨s,hs1,hs2⟩:=hs
   simp only[qcN,hs1,hs2 p (Wk p)]
  ·rintro (⟨h8,h9⟩|⟨h8,h9⟩)
   ·exact h3 (by omega) (by omega) h9
   ·exact h7 (by omega) (by omega) h9
theorem qfZ(x:ByteArray)(hx : ∀ q,qlZ q x=none){p:Nat}{l:List ByteArray}{ts r:List Tk}(h:Hx (x::l) ts r):Stops p ts:=⟨x,(qcd h).1,fun q _=>hx q⟩
theorem qiv(x:ByteArray)(h : ∀ o:Bop,o.str≠x)(q:Nat):qlZ q x=none:=by
 unfold qlZ
 rw[YG]
 intro o _
 simp[h o]
theorem qnc {lv p:Nat} {ts r:List Tk} {e:E} {l:List ByteArray} (ho:Hx (bs [40]::(l++[bs [41]])) ts r) (hl:lv+1<=20)
  (hb : ∀ mid,Hx l ts.tail mid->Stops 1 mid -> ∃ m,qas eS eL f m 1 (lv+1) ts.tail=some (.ok e mid)) (h1:1<=p) (h8:p<=8) (hs:Stops p r) : ∃ n,qas eS eL f n p lv ts=some (.ok e r):=by
 obtain⟨hn,ht⟩:=qcd ho
 obtain⟨mid,hm1,hm2⟩:=hx_app.1 ht
 have hst:Stops 1 mid:=qfZ _ (qiv _ (by intro o; cases o<;>decide)) hm2
 obtain⟨m,hm⟩:=hb mid hm1 hst
 have hx:=qcD (eS:=eS) hm2
 have hend:mid.tail=r:=(qcd hm2).2
 have base:qas eS eL f (m+1) 8 lv ts=some (.ok e r):=by
  rw[qas,if_neg (by rintro (⟨h,_⟩|⟨h,_⟩)<;>omega),if_neg (by omega),hn]
  simp only
  rw[if_neg (by decide),if_neg (by decide),if_neg (by decide),if_neg (by decide),if_neg (by decide),if_neg (by decide),qfY ho hl]
  simp only[hm,hx,hend]
 exact qpJ base (by omega) (8-p) p (by omega) h1 hs (fun _ _=>by rw[hn]; decide) (fun _ _=>by rw[hn]; decide)
theorem rb (full:Bool) : ∀ e:E,e.good ->
  (∀ p lv ts r,1<=p->p<=8->Hx (e.tx full p) ts r->lv+e.nest full p<=20->Stops p r -> ∃ n,qas eS eL f n p lv ts=some (.ok (e.fl f) r)) /\
  (∀ q lv ts r,1<=q->q<=6->q≠4->q≠3->Hx (e.tx full q) ts r->lv+e.nest full q<=20->Stops (q+1) r ->
   ∃ n e0 r0,qas eS eL f n (q+1) lv ts=some (.ok e0 r0) /\ ∀ m x,qcN eS eL f m q lv (e.fl f) r=some x -> ∃ m',qcN eS eL f m' q lv e0 r0=some x):=by
 have prim : ∀ (e:E) (x:ByteArray) lv ts r,(∃ n,qas eS eL f n 8 lv ts=some (.ok (e.fl f) r))->nx ts=some x->x≠ustr false->x≠ustr true ->
   (∀ p,1<=p->p<=8->Stops p r -> ∃ n,qas eS eL f n p lv ts=some (.ok (e.fl f) r)):=fun e x lv ts r ⟨n,hn⟩ hx h1 h2 p hp1 hp8 hs=>
  qpJ hn (by omega) (8-p) p (by omega) hp1 hs (fun _ _ h=>h1 (by rw[hx] at h; exact WC h)) (fun _ _ h=>h2 (by rw[hx] at h; exact WC h))
 have self : ∀ (e:E) q lv ts r,(∃ n,qas eS eL f n (q+1) lv ts=some (.ok (e.fl f) r)) -> ∃ n e0 r0,qas eS eL f n (q+1) lv ts=some (.ok e0 r0) /\ ∀ m x,qcN eS eL f m q lv (e.fl f) r=some x -> ∃ m',qcN eS eL f m' q lv e0 r0=some x:=
  fun e q lv ts r ⟨n,hn⟩=>⟨n,_,_,hn,fun m x h=>⟨m,h⟩⟩
 intro e
 induction e with
 |int n=>
  intro hg
  obtain⟨g1,g2⟩:=hg
  have hd:=qkk (n:=n.toNat) (by omega)
  have A : ∀ p lv ts r,1<=p->p<=8->Hx ((E.int n).tx full p) ts r->lv+(E.int n).nest full p<=20->Stops p r -> ∃ k,qas eS eL f k p lv ts=some (.ok ((E.int n).fl f) r):=fun p lv ts r h1 h8 hx _ hs=>by
   obtain⟨hn,ht⟩:=qcd hx
   cases ht
   have n1:bs (decB n.toNat)≠ustr false:=by intro h; rw[h] at hd; exact absurd hd (by decide)
   have n2:bs (decB n.toNat)≠ustr true:=by intro h; rw[h] at hd; exact absurd hd (by decide)
   refine prim (.int n) _ lv ts _ ⟨1,?_⟩ hn n1 n2 p h1 h8 hs
   rw[qas,if_neg (by rintro (⟨h,_⟩|⟨h,_⟩)<;>omega),if_neg (by omega),hn]
   simp only
   rw[if_pos hd,ByteArray.toList_eq]
   have:=(qgA (n:=n.toNat) (by omega)).1
   rw[show (bs (decB n.toNat)).data.toList=decB n.toNat from qdk _,this,show ((n.toNat:Nat):Int)=n by omega]
   rfl
  exact⟨A,fun q lv ts r h1 h6 _ _ hx hl hs=>self _ q lv ts r (A (q+1) lv ts r (by omega) (by omega) hx hl hs)⟩
 |bool n=>
  intro hg
  have A : ∀ p lv ts r,1<=p->p<=8->Hx ((E.bool n).tx full p) ts r->lv+(E.bool n).nest full p<=20->Stops p r -> ∃ k,qas eS eL f k p lv ts=some (.ok ((E.bool n).fl f) r):=fun p lv ts r h1 h8 hx _ hs=>by
   obtain⟨hn,ht⟩:=qcd hx
   cases ht
   refine prim (.bool n) _ lv ts _ ⟨1,?_⟩ hn (by split<;>decide) (by split<;>decide) p h1 h8 hs
   rw[qas,if_neg (by rintro (⟨h,_⟩|⟨h,_⟩)<;>omega),if_neg (by omega),hn]
   rcases hg with rfl|rfl
   ·simp only[if_true]
    rw[if_neg (by decide),if_neg (by decide),if_pos (by rfl)]; rfl
   ·rw[if_neg (by decide)]
    simp only
    rw[if_neg (by decide),if_pos (by rfl)]; rfl
  exact⟨A,fun q lv ts r h1 h6 _ _ hx hl hs=>self _ q lv ts r (A (q+1) lv ts r (by omega) (by omega) hx hl hs)⟩
 |var s=>
  intro hg
  obtain⟨g1,g2,g3,g4⟩:=hg
  have A : ∀ p lv ts r,1<=p->p<=8->Hx ((E.var s).tx full p) ts r->lv+(E.var s).nest full p<=20->Stops p r -> ∃ k,qas eS eL f k p lv ts=some (.ok ((E.var s).fl f) r):=fun p lv ts r h1 h8 hx _ hs=>by
   obtain⟨hn,ht⟩:=qcd hx
   cases ht
   have n1:s≠ustr false:=by rintro rfl; exact absurd g2 (by decide)
   have n2:s≠ustr true:=by rintro rfl; exact absurd g2 (by decide)
   refine prim (.var s) _ lv ts _ ⟨1,?_⟩ hn n1 n2 p h1 h8 hs
   have nd : ¬ qaG qav s=true:=by
    rw[qbM] at g2 ⊢
    cases hh:(byl s).head? with
    |none=>simp
    |some c=>
     rw[hh] at g2
     simp only[qav,qaW,Wu,decide_eq_true_eq] at g2 ⊢
     omega
   have w : ∀ x∈wordNames,s≠x:=fun x hx he=>g4 (he ▸ hx)
   rw[qas,if_neg (by rintro (⟨h,_⟩|⟨h,_⟩)<;>omega),if_neg (by omega),hn]
   simp only
   rw[if_neg nd,if_neg (w _ (by decide)),if_neg (w _ (by decide)),if_neg (by
    rintro (h|h|h)
    ·exact w _ (by decide) h
    ·exact w _ (by decide) h
    ·exact w _ (by decide) h),if_neg g3,if_pos ⟨g2,g4⟩]
   rfl
  exact⟨A,fun q lv ts r h1 h6 _ _ hx hl hs=>self _ q lv ts r (A (q+1) lv ts r (by omega) (by omega) hx hl hs)⟩
 |name s=>
  intro hg
  have A : ∀ p lv ts r,1<=p->p<=8->Hx ((E.name s).tx full p) ts r->lv+(E.name s).nest full p<=20->Stops p r -> ∃ k,qas eS eL f k p lv ts=some (.ok ((E.name s).fl f) r):=fun p lv ts r h1 h8 hx _ hs=>by
   obtain⟨hn,ht⟩:=qcd hx
   cases ht
   refine prim (.name s) _ lv ts _ ⟨1,?_⟩ hn (by rcases hg with rfl|rfl|rfl<;>decide) (by rcases hg with rfl|rfl|rfl<;>decide) p h1 h8 hs
   rw[qas,if_neg (by rintro (⟨h,_⟩|⟨h,_⟩)<;>omega),if_neg (by omega),hn]
   rcases hg with rfl|rfl|rfl<;>simp only<;>rw[if_neg (by decide),if_neg (by decide),if_neg (by decide),if_pos (by decide)]<;>rfl
  exact⟨A,fun q lv ts r h1 h6 _ _ hx hl hs=>self _ q lv ts r (A (q+1) lv ts r (by omega) (by omega) hx hl hs)⟩
 |field g s e ih=>
  intro hg
  obtain⟨g1,g2⟩:=hg
  have ihA:=(ih g2).1
  have A : ∀ p lv ts r,1<=p->p<=8->Hx ((E.field g s e).tx full p) ts r->lv+(E.field g s e).nest full p<=20->Stops p r -> ∃ k,qas eS eL f k p lv ts=some (.ok ((E.field g s e).fl f) r):=fun p lv ts r h1 h8 hx hl hs=>by
   obtain⟨hn,ht⟩:=qcd hx
   obtain⟨hn2,ht2⟩:=qcd ht
   obtain⟨mid,hm1,hm2⟩:=hx_app.1 ht2
   simp only[E.nest] at hl
   have hst:Stops 1 mid:=qfZ _ (qiv _ (by intro o; cases o<;>decide)) hm2
   obtain⟨k,hk⟩:=ihA 1 (lv+1) _ mid (by omega) (by omega) hm1 (by omega) hst
   have hx2:=qcD (eS:=eS) hm2
   have hend:mid.tail=r:=(qcd hm2).2
   have hi:qce eS eL f (k+1) lv ts.tail=some (.ok (e.fl f) r):=by
    rw[qce,qfY ht (by omega)]
    simp only[hk,hx2,hend]
   have hs' : ∀ x:ByteArray,x∉fieldNames->s≠x:=fun x hx he=>hx (he ▸ g1)
   refine prim (.field g s e) _ lv ts _ ⟨k+2,?_⟩ hn (hs' _ (by decide)) (hs' _ (by decide)) p h1 h8 hs
   have nd : ¬ qaG qav s=true:=by
    simp only[fieldNames,Wq,Ww,or_false] at g1
    rcases g1 with h|h|h|h|h|h|h|h<;>rw[h]<;>decide
   rw[qas,if_neg (by rintro (⟨h,_⟩|⟨h,_⟩)<;>omega),if_neg (by omega),hn]
   simp only
   rw[if_neg nd,if_neg (hs' _ (by decide)),if_neg (hs' _ (by decide)),if_neg (by
    rintro (h|h|h)
    ·exact hs' _ (by decide) h
    ·exact hs' _ (by decide) h
    ·exact hs' _ (by decide) h),if_pos g1,hi]
   rfl
  exact⟨A,fun q lv ts r h1 h6 _ _ hx hl hs=>self _ q lv ts r (A (q+1) lv ts r (by omega) (by omega) hx hl hs)⟩
 |un g neg e ih=>
  intro hg
  have ihA:=(ih hg).1
  have bare : ∀ lv ts r,Hx (ustr neg::e.tx full (qeO neg)) ts r->lv+e.nest full (qeO neg)+1<=20 -> ∀ p,1<=p->p<=qeO neg->Stops p r -> ∃ k,qas eS eL f k p lv ts=some (.ok ((E.un g neg e).fl f) r):=fun lv ts r hx hl p h1 hp hs=>by
   obtain⟨hn,ht⟩:=qcd hx
   obtain⟨k,hk⟩:=ihA (qeO neg) (lv+1) _ r (by cases neg<;>decide) (by cases neg<;>decide) ht (by omega) (hs.mono hp)
   have base:qas eS eL f (k+1) (qeO neg) lv ts=some (.ok ((E.un g neg e).fl f) r):=by
    rw[qas]
    cases neg with
    |false=>
     rw[if_pos (.inl ⟨rfl,hn⟩)]
     simp only[qeO,Wo,if_false] at hk ⊢
     rw[show ustr ((3:Nat)==7)=ustr false from rfl,qfY hx (by omega)]
     simp only[hk]
     rfl
    |true=>
     rw[if_pos (.inr ⟨rfl,hn⟩)]
     simp only[qeO,if_true] at hk ⊢
     rw[show ustr ((7:Nat)==7)=ustr true from rfl,qfY hx (by omega)]
     simp only[hk]
     rfl
   refine qpJ base (by cases neg<;>decide) (qeO neg-p) p (by omega) h1 hs (fun a b=>?_) (fun a b=>?_)
   ·cases neg with
    |false=>exact absurd b (by decide)
    |true=>rw[hn]; decide
   ·cases neg<;>exact absurd b (by decide)
  have A : ∀ p lv ts r,1<=p->p<=8->Hx ((E.un g neg e).tx full p) ts r->lv+(E.un g neg e).nest full p<=20->Stops p r -> ∃ k,qas eS eL f k p lv ts=some (.ok ((E.un g neg e).fl f) r):=fun p lv ts r h1 h8 hx hl hs=>by
   simp only[E.tx,E.nest,qdo] at hx hl
   by_cases c:(full||decide (qeO neg<p))=true
   ·rw[if_pos c] at hx hl
    exact qnc hx (by omega) (fun mid hm hst=>bare (lv+1) _ mid hm (by omega) 1 (by omega) (by cases neg<;>decide) hst) h1 h8 hs
   ·rw[if_neg c] at hx hl
    simp only[Yb,not_or,decide_eq_true_eq,YJ] at c
    exact bare lv ts r hx (by omega) p h1 c.2 hs
  refine⟨A,fun q lv ts r h1 h6 h4 h3 hx hl hs=>self _ q lv ts r (A (q+1) lv ts r (by omega) (by omega) ?_ ?_ hs)⟩
  ·have:(decide (qeO neg<q+1))=decide (qeO neg<q):=by
    rw[decide_eq_decide]; cases neg<;>simp only[qeO]<;>constructor<;>intro h<;>simp at h ⊢ <;> omega
   simp only[E.tx,this] at hx ⊢
   exact hx
  ·have:(decide (qeO neg<q+1))=decide (qeO neg<q):=by
    rw[decide_eq_decide]; cases neg<;>simp only[qeO]<;>constructor<;>intro h<;>simp at h ⊢ <;> omega
   simp only[E.nest,this] at hl ⊢
   exact hl
 |bin g o a b iha ihb=>
  intro hg
  obtain⟨aA,aB⟩:=iha hg.1
  obtain⟨bA,-⟩:=ihb hg.2
  have hp:=qbV o
  have loop : ∀ lv ts r,Hx (a.tx full o.left++o.str::b.tx full (o.prec+1)) ts r->lv+max (a.nest full o.left) (b.nest full (o.prec+1))<=20->Stops (o.prec+1) r ->
    ∃ n e0 r0,qas eS eL f n (o.prec+1) lv ts=some (.ok e0 r0)/\(∀ m x,(if o.prec=4 then some (.ok ((E.bin g o a b).fl f) r) else qcN eS eL f m o.prec lv ((E.bin g o a b).fl f) r)=some x -> ∃ m',qcN eS eL f m' o.prec lv e0 r0=some x):=fun lv ts r hx hl hs=>by
   obtain⟨mid,hm1,hm2⟩:=hx_app.1 hx
   obtain⟨hn,ht⟩:=qcd hm2
   have hst:Stops (o.prec+1) mid:=⟨_,hn,fun q hq=>qoe o q (by omega)⟩
   obtain⟨k,hk⟩:=bA (o.prec+1) lv _ r (by omega) (by omega) ht (by omega) hs
   have fin : ∀ m x,(if o.prec=4 then some (.ok ((E.bin g o a b).fl f) r) else qcN eS eL f m o.prec lv ((E.bin g o a b).fl f) r)=some x -> ∃ m',qcN eS eL f m' o.prec lv (a.fl f) mid=some x:=fun m x h=>by
    refine⟨max k m+1,?_⟩
    rw[qcN,hn]
    simp only[qrK]
    rw[qa9 hk (WE k m)]
    simp only
    by_cases c:o.prec=4
    ·rw[if_pos c] at h ⊢; exact h
    ·rw[if_neg c] at h ⊢; exact qjl h (WB k m)
   by_cases c:o.prec=4
   ·have hleft:o.left=o.prec+1:=by omega
    obtain⟨n,hn'⟩:=aA (o.prec+1) lv ts mid (by omega) (by omega) (hleft ▸ hm1) (by rw[<- hleft]; omega) hst
    exact⟨n,_,_,hn',fin⟩
   ·have hleft:o.left=o.prec:=by omega
    rw[hleft] at hm1 hl
    obtain⟨n,e0,r0,h1,h2⟩:=aB o.prec lv ts mid (by omega) (by omega) c (by omega) hm1 (by omega) hst
    refine⟨n,e0,r0,h1,fun m x h=>?_⟩
    obtain⟨m',hm'⟩:=fin m x h
    exact h2 m' x hm'
  have bare : ∀ lv ts r,Hx (a.tx full o.left++o.str::b.tx full (o.prec+1)) ts r->lv+max (a.nest full o.left) (b.nest full (o.prec+1))<=20 -> ∀ p,1<=p->p<=o.prec->Stops p r -> ∃ k,qas eS eL f k p lv ts=some (.ok ((E.bin g o a b).fl f) r):=fun lv ts r hx hl p h1 hpo hs=>by
   obtain⟨n,e0,r0,h2,h3⟩:=loop lv ts r hx hl (hs.mono (by omega))
   have hend:qcN eS eL f 1 o.prec lv ((E.bin g o a b).fl f) r=some (.ok ((E.bin g o a b).fl f) r):=by
    obtain⟨s,hs1,hs2⟩:=hs
    simp only[qcN,hs1,hs2 o.prec hpo]
   obtain⟨m',hm'⟩:=h3 1 _ (by split<;>first|rfl|exact hend)
   obtain⟨x,l,q1,q2,q3⟩:=qmi full a hg.1 o.left
   have hnx:nx ts=some x:=by
    rw[q1] at hx
    exact (qcd hx).1
   have base:qas eS eL f (max n m'+1) o.prec lv ts=some (.ok ((E.bin g o a b).fl f) r):=by
    rw[qas,if_neg (by rintro (⟨h,_⟩|⟨h,_⟩)<;>omega),if_pos (by omega),qa9 h2 (WE n m')]
    exact qjl hm' (WB n m')
   refine qpJ base (by omega) (o.prec-p) p (by omega) h1 hs (fun c1 c2 h=>?_) (fun c1 c2=>by omega)
   have:=q2 (WC (hnx.symm.trans h))
   omega
  have A : ∀ p lv ts r,1<=p->p<=8->Hx ((E.bin g o a b).tx full p) ts r->lv+(E.bin g o a b).nest full p<=20->Stops p r -> ∃ k,qas eS eL f k p lv ts=some (.ok ((E.bin g o a b).fl f) r):=fun p lv ts r h1 h8 hx hl hs=>by
   simp only[E.tx,E.nest,qdo] at hx hl
   by_cases c:(full||decide (o.prec<p))=true
   ·rw[if_pos c] at hx hl
    exact qnc hx (by omega) (fun mid hm hst=>bare (lv+1) _ mid hm (by omega) 1 (by omega) (by omega) hst) h1 h8 hs
   ·rw[if_neg c] at hx hl
    simp only[Yb,not_or,decide_eq_true_eq,YJ] at c
    exact bare lv ts r hx (by omega) p h1 c.2 hs
  refine⟨A,fun q lv ts r h1 h6 h4 h3 hx hl hs=>?_⟩
  by_cases c:full=false/\o.prec=q
  ·obtain⟨c1,rfl⟩:=c
   have hf : ¬ (full||decide (o.prec<o.prec))=true:=by simp[c1]
   simp only[E.tx,E.nest,qdo,if_neg hf] at hx hl
   obtain⟨n,e0,r0,h5,h7⟩:=loop lv ts r hx (by omega) hs
   exact⟨n,e0,r0,h5,fun m x h=>h7 m x (by rw[if_neg h4]; exact h)⟩
  ·have hd:(full||decide (o.prec<q+1))=(full||decide (o.prec<q)):=by
    cases full with
    |true=>rfl
    |false=>
     have:o.prec≠q:=fun h=>c ⟨rfl,h⟩
     simp only[Bool.false_or,decide_eq_decide]
     omega
   refine self _ q lv ts r (A (q+1) lv ts r (by omega) (by omega) ?_ ?_ hs)
   ·simp only[E.tx,hd] at hx ⊢
    exact hx
   ·simp only[E.nest,hd] at hl ⊢
    exact hl
end
end
section
def ifS:ByteArray:=bs [105,102]
def qkj:ByteArray:=bs [101,108,115,101]
def qpH:ByteArray:=bs [119,104,105,108,101]
def qmg:ByteArray:=bs [101,102,102,101,99,116]
def qum:ByteArray:=bs [115,116,111,112]
def onS:ByteArray:=bs [111,110]
def qfW:Ss->Bool
 |.block _ .nil _=>false
 |.block _ _ _=>true
 |_=>false
def Ss.tx:Ss->List ByteArray
 |.nil=>[]
 |.assign _ s e r=>s::bs [61]::(e.tx false 1++(bs [59]::r.tx))
 |.store _ s a b r=>s::bs [91]::(a.tx false 1++(bs [93]::bs [61]::(b.tx false 1++(bs [59]::r.tx))))
 |.effect _ a b r=>qmg::(a.tx false 1++(bs [44]::(b.tx false 1++(bs [59]::r.tx))))
 |.stop r=>qum::bs [59]::r.tx
 |.cond w _ c b r=>(if w then qpH else ifS)::(c.tx false 1++(b.tx++r.tx))
 |.block _ b r=>bs [123]::(b.tx++(bs [125]::(if qfW r then qkj::r.tx else [])))
def qrF(s:ByteArray):Prop:=Tg (byl s)/\qaG qaW s=true/\s∉fieldNames/\s∉wordNames
def Ss.good:Ss->Option Nat->Prop
 |.nil,m=>m=none\/m=some 0
 |.assign _ s e r,m=>m=none/\qrF s/\e.good/\r.good none
 |.store _ s a b r,m=>m=none/\s∈fieldNames/\a.good/\b.good/\r.good none
 |.effect _ a b r,m=>m=none/\a.good/\b.good/\r.good none
 |.stop r,m=>m=none/\r.good none
 |.cond w _ c b r,m=>m=none/\c.good/\b.good (some (if w then 1 else 2))/\r.good none
 |.block _ b r,m => ∃ n,m=some (n+1)/\b.good none/\r.good (some n)
def Ss.nest:Ss->Nat
 |.nil=>0
 |.assign _ _ e r=>max (e.nest false 1) r.nest
 |.store _ _ a b r=>max (a.nest false 1+1) (max (b.nest false 1) r.nest)
 |.effect _ a b r=>max (a.nest false 1) (max (b.nest false 1) r.nest)
 |.stop r=>r.nest
 |.cond _ _ c b r=>max (c.nest false 1) (max (b.nest+1) r.nest)
 |.block _ b r=>max b.nest r.nest
def Ss.fl(f fi fb:Bool):Ss->Ss
 |.nil => .nil
 |.assign _ s e r => .assign f s (e.fl f) (r.fl f fi fb)
 |.store _ s a b r => .store f s (a.fl f) (b.fl f) (r.fl f fi fb)
 |.effect _ a b r => .effect f (a.fl f) (b.fl f) (r.fl f fi fb)
 |.stop r => .stop (r.fl f fi fb)
 |.cond w _ c b r => .cond w (if w then f else fi) (c.fl f) (b.fl f fi fb) (r.fl f fi fb)
 |.block _ b r => .block fb (b.fl f fi fb) (r.fl f fi fb)
theorem qoc(a:Ss):a.app .nil=a:=by induction a<;>simp_all [Ss.app]
theorem qb9(a b c:Ss):(a.app b).app c=a.app (b.app c):=by induction a<;>simp_all [Ss.app]
theorem qfX{s x:ByteArray}(h:qrF s)(hx:x∈fieldNames\/x∈wordNames\/qaG qaW x=false):s≠x:=by
 rintro rfl
 rcases hx with hx|hx|hx
 ·exact h.2.2.1 hx
 ·exact h.2.2.2 hx
 ·rw[h.2.1] at hx; cases hx
theorem qeB{s x:ByteArray}(h:s∈fieldNames)(hx:x∉fieldNames):s≠x:=fun e=>hx (e ▸ h)
theorem qun : ∀ (s:Ss),s.good none -> ∃ x l,s.tx++[bs [125]]=x::l/\x≠qkj/\(s ≠ .nil->x≠bs [125])
 |.nil,_=>⟨_,_,rfl,by decide,fun h=>absurd rfl h⟩
 |.assign f s e r,h=>⟨_,_,rfl,qfX h.2.1 (.inr (.inl (by decide))),fun _=>qfX h.2.1 (.inr (.inr (by decide)))⟩
 |.store f s a b r,h=>⟨_,_,rfl,qeB h.2.1 (by decide),fun _=>qeB h.2.1 (by decide)⟩
 |.effect f a b r,h=>⟨_,_,rfl,by decide,fun _=>by decide⟩
 |.stop r,h=>⟨_,_,rfl,by decide,fun _=>by decide⟩
 |.cond w f c b r,h=>by
  refine⟨_,_,rfl,?_,fun _=>?_⟩<;>cases w<;>decide
 |.block f b r,h=>by obtain⟨n,hn,_⟩:=h; cases hn
section
variable{eS eL:Nat}{f fi fb:Bool}
def qAi(eS eL:Nat)(f fi fb:Bool):Ss->Prop
 |.block _ b r=>(∀ lv ts q,Hx (bs [123]::(b.tx++[bs [125]])) ts q->lv+b.nest<=20 -> ∃ n,qbu eS eL f fi fb n lv ts=some (.ok (b.fl f fi fb) q))/\qAi eS eL f fi fb r
 |_=>True
theorem qxc(x:ByteArray)(hx : ∀ o:Bop,o.str≠x){l:List ByteArray}{ts r:List Tk}(h:Hx (x::l) ts r):Stops 1 ts:=qfZ x (qiv x hx) h
theorem rb1 {e:E} (hg:e.good) {x:ByteArray} (hx : ∀ o:Bop,o.str≠x) {l:List ByteArray} {ts r:List Tk} {lv:Nat} (h:Hx (e.tx false 1++x::l) ts r) (hl:lv+e.nest false 1<=20) :
  ∃ n mid,qas eS eL f n 1 lv ts=some (.ok (e.fl f) mid)/\Hx (x::l) mid r:=by
 obtain⟨mid,h1,h2⟩:=hx_app.1 h
 obtain⟨n,hn⟩:=(rb (eS:=eS) (eL:=eL) (f:=f) false e hg).1 1 lv ts mid (by omega) (by omega) h1 hl (qxc x hx h2)
 exact⟨n,mid,hn,h2⟩
theorem qrG {e:E} (hg:e.good) {l:List ByteArray} {ts r:List Tk} {lv:Nat} (h:Hx (bs [91]::(e.tx false 1++bs [93]::l)) ts r) (hl:lv+(e.nest false 1+1)<=20) :
  ∃ n mid,qce eS eL f n lv ts=some (.ok (e.fl f) mid)/\Hx l mid r:=by
 obtain⟨n,mid,h1,h2⟩:=rb1 (eS:=eS) (eL:=eL) (f:=f) hg (by intro o; cases o<;>decide) (qcd h).2 (lv:=lv+1) (by omega)
 refine⟨n+1,mid.tail,?_,(qcd h2).2⟩
 rw[qce,qfY h (by omega)]
 simp only[h1,qcD h2]
theorem rbS : ∀ s:Ss,
  (s.good none -> ∀ lv a ts r,Hx (s.tx++[bs [125]]) ts r->lv+s.nest<=20 -> ∃ n,qcJ eS eL f fi fb n lv a ts=some (.ok (a.app (s.fl f fi fb)) r)) /\
  ((∃ k,s.good (some k))->qAi eS eL f fi fb s):=by
 have step : ∀ (s1:Ss) (x:ByteArray) lv a ts mid y,nx ts=some x->x≠bs [125]->(∃ n,qdm eS eL f fi fb n lv ts=some (.ok s1 mid))->(∃ n,qcJ eS eL f fi fb n lv (a.app s1) mid=some y) -> ∃ n,qcJ eS eL f fi fb n lv a ts=some y:=by
  rintro s1 x lv a ts mid y hn hx ⟨n,h1⟩ ⟨m,h2⟩
  refine⟨max n m+1,?_⟩
  rw[qcJ,hn]
  simp only
  rw[if_neg hx,qjm h1 (WE n m)]
  exact qme h2 (WB n m)
 have closed : ∀ {α : Type} (a : α) (l:List ByteArray) (ts r:List Tk),Hx (bs [59]::l) ts r->qbX eS a ts = .ok a ts.tail:=fun a l ts r h=>by rw[qbX,qcD h]
 intro s
 induction s with
 |nil=>
  refine⟨fun _ lv a ts r hx hl=>⟨1,?_⟩,fun _=>trivial⟩
  obtain⟨hn,ht⟩:=qcd hx
  cases ht
  simp[qcJ,hn,qoc,Ss.fl]
 |assign g s e r ih=>
  refine⟨fun hg lv a ts q hx hl=>?_,fun _=>trivial⟩
  obtain⟨-,g1,g2,g3⟩:=hg
  simp only[Ss.nest] at hl
  simp only[Ss.tx,Wh,Wt] at hx
  obtain⟨hn,h1⟩:=qcd hx
  obtain⟨n,mid,h3,h4⟩:=rb1 (eS:=eS) (eL:=eL) (f:=f) g2 (by intro o; cases o<;>decide) (qcd h1).2 (lv:=lv) (by omega)
  obtain⟨m,hm⟩:=ih.1 g3 lv (a.app (.assign f s (e.fl f) .nil)) mid.tail q (qcd h4).2 (by omega)
  refine step (.assign f s (e.fl f) .nil) s lv a ts mid.tail _ hn (qfX g1 (.inr (.inr (by decide)))) ⟨n+1,?_⟩ ⟨m,?_⟩
  ·rw[qdm,hn]
   simp only
   rw[if_neg (qfX g1 (.inr (.inl (by decide)))),if_neg (qfX g1 (.inr (.inl (by decide)))),if_neg (qfX g1 (.inr (.inl (by decide)))),if_neg (qfX g1 (.inr (.inl (by decide)))),if_neg g1.2.2.1,if_pos ⟨g1.2.1,g1.2.2.2⟩,qcD h1]
   simp only[h3,closed _ _ _ _ h4]
  ·rw[hm,qb9]; rfl
 |store g s x y r ih=>
  refine⟨fun hg lv a ts q hx hl=>?_,fun _=>trivial⟩
  obtain⟨-,g1,g2,g3,g4⟩:=hg
  simp only[Ss.nest] at hl
  simp only[Ss.tx,Wh,Wt] at hx
  obtain⟨hn,h1⟩:=qcd hx
  obtain⟨n,mid,h3,h4⟩:=qrG (eS:=eS) (eL:=eL) (f:=f) g2 h1 (lv:=lv) (by omega)
  obtain⟨n2,mid2,h5,h6⟩:=rb1 (eS:=eS) (eL:=eL) (f:=f) g3 (by intro o; cases o<;>decide) (qcd h4).2 (lv:=lv) (by omega)
  obtain⟨m,hm⟩:=ih.1 g4 lv (a.app (.store f s (x.fl f) (y.fl f) .nil)) mid2.tail q (qcd h6).2 (by omega)
  refine step (.store f s (x.fl f) (y.fl f) .nil) s lv a ts mid2.tail _ hn (qeB g1 (by decide)) ⟨max n n2+1,?_⟩ ⟨m,?_⟩
  ·rw[qdm,hn]
   simp only
   rw[if_neg (qeB g1 (by decide)),if_neg (qeB g1 (by decide)),if_neg (qeB g1 (by decide)),if_neg (qeB g1 (by decide)),if_pos g1,qil h3 (WE n n2)]
   simp only[qcD h4,qa9 h5 (WB n n2),closed _ _ _ _ h6]
  ·rw[hm,qb9]; rfl
 |effect g x y r ih=>
  refine⟨fun hg lv a ts q hx hl=>?_,fun _=>trivial⟩
  obtain⟨-,g2,g3,g4⟩:=hg
  simp only[Ss.nest] at hl
  simp only[Ss.tx,Wh,Wt] at hx
  obtain⟨hn,h1⟩:=qcd hx
  obtain⟨n,mid,h3,h4⟩:=rb1 (eS:=eS) (eL:=eL) (f:=f) g2 (by intro o; cases o<;>decide) h1 (lv:=lv) (by omega)
  obtain⟨n2,mid2,h5,h6⟩:=rb1 (eS:=eS) (eL:=eL) (f:=f) g3 (by intro o; cases o<;>decide) (qcd h4).2 (lv:=lv) (by omega)
  obtain⟨m,hm⟩:=ih.1 g4 lv (a.app (.effect f (x.fl f) (y.fl f) .nil)) mid2.tail q (qcd h6).2 (by omega)
  refine step (.effect f (x.fl f) (y.fl f) .nil) _ lv a ts mid2.tail _ hn (by decide) ⟨max n n2+1,?_⟩ ⟨m,?_⟩
  ·rw[qdm,hn]
   simp only
   rw[if_neg (by decide),if_neg (by decide),if_pos (by rfl),qa9 h3 (WE n n2)]
   simp only[qcD h4,qa9 h5 (WB n n2),closed _ _ _ _ h6]
  ·rw[hm,qb9]; rfl
 |stop r ih=>
  refine⟨fun hg lv a ts q hx hl=>?_,fun _=>trivial⟩
  obtain⟨-,g4⟩:=hg
  simp only[Ss.nest] at hl
  simp only[Ss.tx,Wh,Wt] at hx
  obtain⟨hn,h1⟩:=qcd hx
  obtain⟨m,hm⟩:=ih.1 g4 lv (a.app (.stop .nil)) ts.tail.tail q (qcd h1).2 (by omega)
  refine step (.stop .nil) _ lv a ts ts.tail.tail _ hn (by decide) ⟨1,?_⟩ ⟨m,?_⟩
  ·rw[qdm,hn]
   simp only
   rw[if_neg (by decide),if_neg (by decide),if_neg (by decide),if_pos (by rfl),closed _ _ _ _ h1]
  ·rw[hm,qb9]; rfl
 |cond w g c b r ihb ih=>
  refine⟨fun hg lv a ts q hx hl=>?_,fun _=>trivial⟩
  obtain⟨-,g2,g3,g4⟩:=hg
  simp only[Ss.nest] at hl
  simp only[Ss.tx,Wh,Wt] at hx
  obtain⟨hn,h1⟩:=qcd hx
  have hrow:=ihb.2 ⟨_,g3⟩
  cases b with
  |block fb1 b1 b'=>
   obtain⟨k,hk,gb1,gb'⟩:=g3
   simp only[Ss.tx,Wh,Wt] at h1
   obtain⟨n,mid,h3,h4⟩:=rb1 (eS:=eS) (eL:=eL) (f:=f) g2 (by intro o; cases o<;>decide) h1 (lv:=lv) (by omega)
   simp only[Ss.nest] at hl
   have h4' : ∃ mid2,Hx (bs [123]::(b1.tx++[bs [125]])) mid mid2/\Hx ((if qfW b'=true then qkj::b'.tx else [])++(r.tx++[bs [125]])) mid2 q:=by
    have e:bs [123]::(b1.tx++bs [125]::((if qfW b'=true then qkj::b'.tx else [])++(r.tx++[bs [125]])))=(bs [123]::(b1.tx++[bs [125]]))++((if qfW b'=true then qkj::b'.tx else [])++(r.tx++[bs [125]])):=by simp
    rw[e] at h4
    exact hx_app.1 h4
   obtain⟨mid2,h5,h6⟩:=h4'
   obtain⟨n2,h7⟩:=hrow.1 (lv+1) mid mid2 h5 (by omega)
   cases w with
   |true=>
    simp only[if_true] at hk hn
    obtain rfl:k=0:=by simpa using hk.symm
    have hb':b' = .nil:=by
     cases b' with
     |nil=>rfl
     |block=>obtain⟨k,hk,_⟩:=gb'; cases hk
     |_=>exact absurd gb'.1 (by simp)
    subst hb'
    simp only[qfW,Wo,if_false,Wf] at h6
    obtain⟨m,hm⟩:=ih.1 g4 lv (a.app (.cond true f (c.fl f) (.block fb (b1.fl f fi fb) .nil) .nil)) mid2 q h6 (by omega)
    refine step _ _ lv a ts mid2 _ hn (by decide) ⟨max n n2+1,?_⟩ ⟨m,hm.trans ?_⟩
    ·rw[qdm,hn]
     simp only
     rw[if_neg (by decide),if_pos (by rfl),qa9 h3 (WE n n2)]
     simp only[qcS h7 (WB n n2)]
    ·rw[qb9]; rfl
   |false=>
    simp only[Wo,if_false] at hk hn
    obtain rfl:k=1:=by simpa using hk.symm
    cases b' with
    |block fb2 b2 b''=>
     obtain⟨k2,hk2,gb2,gb''⟩:=gb'
     obtain rfl:k2=0:=by simpa using hk2.symm
     have hb'':b'' = .nil:=by
      cases b'' with
      |nil=>rfl
      |block=>obtain⟨k,hk,_⟩:=gb''; cases hk
      |_=>exact absurd gb''.1 (by simp)
     subst hb''
     simp only[Ss.nest] at hl
     by_cases he:qfW (.block fb2 b2 .nil)=true
     ·rw[if_pos he] at h6
      simp only[Wh,Ss.tx,Wt] at h6
      obtain⟨hn6,h8⟩:=qcd h6
      have h9 : ∃ mid3,Hx (bs [123]::(b2.tx++[bs [125]])) mid2.tail mid3/\Hx (r.tx++[bs [125]]) mid3 q:=by
       have e:bs [123]::(b2.tx++bs [125]::((if qfW Ss.nil=true then [qkj] else [])++(r.tx++[bs [125]])))=(bs [123]::(b2.tx++[bs [125]]))++(r.tx++[bs [125]]):=by simp[qfW]
       rw[e] at h8
       exact hx_app.1 h8
      obtain⟨mid3,h10,h11⟩:=h9
      obtain⟨n3,h12⟩:=hrow.2.1 (lv+1) mid2.tail mid3 h10 (by omega)
      obtain⟨m,hm⟩:=ih.1 g4 lv (a.app (.cond false fi (c.fl f) (.block fb (b1.fl f fi fb) (.block fb (b2.fl f fi fb) .nil)) .nil)) mid3 q h11 (by omega)
      refine step _ _ lv a ts mid3 _ hn (by decide) ⟨max n (max n2 n3)+1,?_⟩ ⟨m,hm.trans ?_⟩
      ·rw[qdm,hn]
       simp only
       rw[if_pos (by rfl),qa9 h3 (by omega)]
       simp only[qcS h7 (show n2<=max n (max n2 n3) by omega),hn6]
       rw[if_pos (by rfl),qcS h12 (by omega)]
      ·rw[qb9]; rfl
     ·rw[if_neg he] at h6
      simp only[Wf] at h6
      have hb2:b2 = .nil:=by cases b2<;>first|rfl|exact absurd rfl he
      subst hb2
      obtain⟨x,l,q1,q2,q3⟩:=qun r g4
      have hn6:nx mid2=some x:=by rw[q1] at h6; exact (qcd h6).1
      obtain⟨m,hm⟩:=ih.1 g4 lv (a.app (.cond false fi (c.fl f) (.block fb (b1.fl f fi fb) (.block fb .nil .nil)) .nil)) mid2 q h6 (by omega)
      refine step _ _ lv a ts mid2 _ hn (by decide) ⟨max n n2+1,?_⟩ ⟨m,hm.trans ?_⟩
      ·rw[qdm,hn]
       simp only
       rw[if_pos (by rfl),qa9 h3 (by omega)]
       simp only[qcS h7 (show n2<=max n n2 by omega),hn6]
       rw[if_neg (show ¬ x=bs [101,108,115,101] from q2)]
      ·rw[qb9]; rfl
    |nil=>rcases gb' with h|h<;>cases h
    |_=>exact absurd gb'.1 (by simp)
  |nil=>rcases g3 with h|h<;>cases w<;>cases h
  |_=>exact absurd g3.1 (by simp)
 |block g b r ihb ihr=>
  refine⟨fun hg=>(by obtain⟨k,hk,_⟩:=hg; cases hk),fun hg=>?_⟩
  obtain⟨k,k',hk,g1,g2⟩:=hg
  refine⟨fun lv ts q hx hl=>?_,ihr.2 ⟨_,g2⟩⟩
  obtain⟨m,hm⟩:=ihb.1 g1 lv .nil ts.tail q (qcd hx).2 hl
  refine⟨m+1,?_⟩
  rw[qbu,qfY hx (by omega)]
  exact hm
end
end
section
def E.cost:E->Nat
 |.int n=>(decB n.toNat).length+1
 |.bool n=>if n=0 then 6 else 5
 |.var s=>s.size+1
 |.name s=>s.size+1
 |.field _ s e=>s.size+5+e.cost
 |.un _ _ e=>6+e.cost
 |.bin _ o a b=>o.str.size+5+(a.cost+b.cost)
def Ss.cost:Ss->Nat
 |.nil=>0
 |.assign _ s e r=>s.size+5+e.cost+r.cost
 |.store _ s a b r=>s.size+9+(a.cost+b.cost)+r.cost
 |.effect _ a b r=>11+(a.cost+b.cost)+r.cost
 |.stop r=>7+r.cost
 |.cond w _ c b r=>(if w then 6 else 3)+c.cost+b.cost+r.cost
 |.block _ b r=>4+b.cost+((if qfW r then 5 else 0)+r.cost)
def Co(c0:Int)(cost:Nat)(xs:List Int)(i i':Int):Prop:=i<=i'/\(i'<=i\/i'<=xs.length)/\(cost:Int)<=c0+24*(i'-i)
end
section
open F
theorem qsd{n m:Int}(h1:I64 n)(hm:1<=m):Z qad (.call 17 [.int n,.int m] [])=some (.ret (.int (qiy n m)) []):=by
 refine qaa (pf:=F17) rfl rfl ?_
 unfold qiy
 have hm0 : ¬ m=0:=by omega
 by_cases h:n<0
 ·have w1:IntKind.i64.wrap (n+1)=n+1:=qah _ (by unfold I64 at h1; omega)
  have w2:IntKind.i64.wrap (-(n+1)) = -(n+1):=qah _ (by unfold I64 at h1; omega)
  simp[F17,h,hm0,w1,w2]
 ·simp[F17,h,hm0]
abbrev qvx(v:D)(i:Int):S:=[.cells [.dat v,.int i]]
abbrev gst(xs:List Int)(i:Int):S:=qvx (qet xs) i
def qay(xs:List Int)(i m:Int):Int:=if (xs.length:Int)<=i then 0 else (qiy (xs.getD i.toNat 0) 1000000).tmod m
def qaB(xs:List Int)(i:Int):Int:=if (xs.length:Int)<=i then i else i+1
structure Bnd(v:D)(xs:List Int)(B:Int):Prop where
 row:RowV v xs
 len:(xs.length:Int)<=B
 big:B<=9223372036854775807
theorem qoy(xs:List Int):RowV (qet xs) xs:=by
 cases xs
 ·exact .inl ⟨_,rfl,rfl⟩
 ·exact .inr rfl
theorem qbv{xs:List Int}(h:xs.length<=100):Bnd (qet xs) xs 100:=⟨qoy xs,by omega,by omega⟩
theorem qat{v:D}{xs:List Int}{i B:Int}(h:0<=i/\i<=B)(hl:Bnd v xs B):0<=qaB xs i/\qaB xs i<=B:=by
 have:=hl.len
 unfold qaB; split<;>omega
theorem qaq(xs:List Int)(i:Int):(qaB xs i=i+1/\i<xs.length)\/(qaB xs i=i /\ ∀ m,qay xs i m=0):=by
 unfold qaB qay
 split
 ·exact .inr ⟨rfl,fun m=>rfl⟩
 ·exact .inl ⟨rfl,by omega⟩
theorem qbc{xs:List Int}{i m:Int}(hx : ∀ x∈xs,I64 x)(hm:1<=m):0<=qay xs i m/\qay xs i m<m:=by
 unfold qay
 split
 ·omega
 ·have h0:I64 (xs.getD i.toNat 0):=by
   rw[Wx]
   cases h:xs[i.toNat]? with
   |none=>simp[I64]
   |some y=>exact hx _ (WQ h)
  have:=qpQ (m:=1000000) h0 (by omega)
  exact qhR this.1 hm
theorem qbj {v:D} {xs:List Int} {i m B:Int} (hx : ∀ x∈xs,I64 x) (hl:Bnd v xs B) (hi:0<=i/\i<=B) (hm:1<=m) :
  Z qad (.call 136 [.ptr 0 0,.int m] (qvx v i))=some (.ret (.int (qay xs i m)) (qvx v (qaB xs i))):=by
 refine qaa (pf:=F136) rfl rfl ?_
 have hm0:m≠0:=by omega
 have hb:=hl.len
 have hb2:=hl.big
 rcases hl.row with ⟨o,rfl,rfl⟩|rfl
 ·have h:(0:Int)<=i:=hi.1
  simp[F136,h,qay,qaB,V.len]
 by_cases h:(xs.length:Int)<=i
 ·simp[F136,h,qay,qaB,V.len]
 ·have a1:=qd0 (qcg xs) xs.length false i hi.1 (by omega)
  have hlt:i.toNat<xs.length:=by omega
  have a2:=qh7 xs i.toNat hlt
  have a3:=qsd (n:=xs[i.toNat]) (m:=1000000) (hx _ (Yl hlt)) (by omega)
  have w1:=qah (i+1) (by omega)
  simp[F136,w1,h,qay,qaB,V.len,a1,a2,a3,hm0,hlt]
section
variable(k:Int)(s:ByteArray)(a b a' b':Int)(t t':ByteArray)(d d':D)
theorem qqt (h1:V.one (.dat d)=true) (h2:V.cells (.dat d)=[.dat d]) :
  Z qad (.call 176 [.int k,.str s,.dat (.agg [.lit (.int .i64 a),.lit (.int .i64 b),.lit (.string t),d])] []) =
   some (.ret (.dat (.agg [.lit (.int .i64 k),.lit (.int .i64 0),.lit (.string s),.sl [.lit (.int .i64 a),.lit (.int .i64 b),.lit (.string t),d] 1 true])) []):=by
 refine qaa (pf:=F176) rfl rfl ?_
 simp[F176,h1,h2]
theorem qoz (h1:V.one (.dat d)=true) (h2:V.cells (.dat d)=[.dat d]) (h3:V.one (.dat d')=true) (h4:V.cells (.dat d')=[.dat d']) :
  Z qad (.call 178 [.int k,.str s,.dat (.agg [.lit (.int .i64 a),.lit (.int .i64 b),.lit (.string t),d]),.dat (.agg [.lit (.int .i64 a'),.lit (.int .i64 b'),.lit (.string t'),d'])] []) =
   some (.ret (.dat (.agg [.lit (.int .i64 k),.lit (.int .i64 0),.lit (.string s),.sl [.lit (.int .i64 a),.lit (.int .i64 b),.lit (.string t),d,.lit (.int .i64 a'),.lit (.int .i64 b'),.lit (.string t'),d'] 2 true])) []):=by
 refine qaa (pf:=F178) rfl rfl ?_
 simp[F178,h1,h2,h3,h4,Wa]
end
def qoA:List ByteArray:=[⟨#[105]⟩,⟨#[110]⟩,⟨#[115,117,109]⟩,⟨#[118,51]⟩]
def qse:List ByteArray:=qoA++[⟨#[118]⟩]
def qlF:List ByteArray:=[⟨#[115,101,108,102]⟩,⟨#[111,116,104,101,114]⟩,⟨#[116,105,99,107]⟩]
def qf8:List ByteArray:=[⟨#[120]⟩,⟨#[121]⟩,⟨#[118,120]⟩,⟨#[118,121]⟩,⟨#[97]⟩,⟨#[98]⟩]
def qdM:List ByteArray:=qf8++[⟨#[104,105,116]⟩,⟨#[115,116,105,108,108]⟩]
def E.fine:E->Prop
 |.int n=>0<=n/\n<=2147483647
 |.bool n=>n=0\/n=1
 |.var s=>s∈qse
 |.name s=>s∈qlF
 |.field _ s e=>s∈qdM/\e.fine/\e.ty=1
 |.un _ neg e=>e.fine/\e.ty=if neg then 1 else 2
 |.bin _ o a b=>a.fine/\b.fine/\a.ty=o.opd/\b.ty=o.opd
def E.dp:E->Nat
 |.field _ _ e=>e.dp+1
 |.un _ _ e=>e.dp+1
 |.bin _ _ a b=>max a.dp b.dp+1
 |_=>0
def mxs:Nat->Nat
 |0=>1
 |n+1=>2*mxs n+1
theorem qiG(n:Nat):1<=mxs n:=by cases n<;>simp[mxs]
def GIb(B:Int)(v:D)(xs:List Int)(d i:Int):Prop := ∃ (e:E) (i':Int),(e.fine/\e.ty=1/\e.dp<=d.toNat/\e.size<=mxs d.toNat/\Co 2 e.cost xs i i')/\(0<=i'/\i'<=B) /\
 Z qad (.call 177 [.ptr 0 0,.int d] (qvx v i))=some (.ret e.node (qvx v i'))
def GBb(B:Int)(v:D)(xs:List Int)(d i:Int):Prop := ∃ (e:E) (i':Int),(e.fine/\e.ty=2/\e.dp<=d.toNat+1/\e.size<=mxs (d.toNat+1)/\Co 6 e.cost xs i i')/\(0<=i'/\i'<=B) /\
 Z qad (.call 179 [.ptr 0 0,.int d] (qvx v i))=some (.ret e.node (qvx v i'))
abbrev GI(xs:List Int):=GIb 100 (qet xs) xs
abbrev GB(xs:List Int):=GBb 100 (qet xs) xs
theorem qiH{l:List ByteArray}{p:Int}(h:0<=p/\p<l.length) : ∃ s∈l,cutCells (strC l) p.toNat 1=some [.lit (.string s)]:=
 ⟨_,Yl (by omega:p.toNat<l.length),qgH l p.toNat (by omega)⟩
def nums:List Int:=[0,1,2,3,7,100,1024,2147483647]
def qv6:List Bop:=[.add,.sub,.mul,.div]
theorem qvy{p:Int}(h:0<=p/\p<4) : ∃ o∈qv6,cutCells (strC [⟨#[43]⟩,⟨#[45]⟩,⟨#[42]⟩,⟨#[47]⟩]) p.toNat 1=some [.lit (.string (Bop.str o))]:=by
 obtain rfl|rfl|rfl|rfl:p=0\/p=1\/p=2\/p=3:=by omega
 ·exact⟨.add,by simp[qv6],rfl⟩
 ·exact⟨.sub,by simp[qv6],rfl⟩
 ·exact⟨.mul,by simp[qv6],rfl⟩
 ·exact⟨.div,by simp[qv6],rfl⟩
section
variable{v:D}{xs:List Int}{i d B:Int}(hx : ∀ x∈xs,I64 x)(hl:Bnd v xs B)(hi:0<=i/\i<=B)
include hx hl hi
def qjF(xs:List Int)(d i:Int):Int:=if d<=0 then (qay xs i 12).tmod 6 else qay xs i 12
theorem qqu(h:qjF xs d i=0\/qjF xs d i=1):GIb B v xs d i:=by
 have n1:=qbj (i:=i) (m:=12) hx hl hi (by omega)
 have r1:=qat hi hl
 have n2:=qbj (i:=qaB xs i) (m:=8) hx hl r1 (by omega)
 have r2:=qat r1 hl
 have p:=qbc (i:=qaB xs i) (m:=8) hx (by omega)
 have hat:=qd0 (qcg nums) 8 true (qay xs (qaB xs i) 8) p.1 (by omega)
 have hc:=qh7 nums (qay xs (qaB xs i) 8).toNat (by simp[nums]; omega)
 have hm : ∀ n∈nums,0<=n/\n<=2147483647:=by decide
 have hn:=hm _ (Yl (l:=nums) (n:=(qay xs (qaB xs i) 8).toNat) (by simp[nums]; omega))
 have hlen:(qay xs (qaB xs i) 8).toNat<nums.length:=by simp[nums]; omega
 have hco:Co 2 (E.cost (.int (nums[(qay xs (qaB xs i) 8).toNat]'hlen))) xs i (qaB xs (qaB xs i)):=by
  have hcs : ∀ n∈nums,E.cost (.int n)<=11:=by decide +kernel
  have h11:=hcs _ (Yl hlen)
  have h0 : ∀ (k:Nat) (hk:k<nums.length),k=0->E.cost (.int (nums[k]'hk))=2:=fun k hk e=>by subst e; exact (by decide +kernel:E.cost (.int 0)=2)
  have hz:=h0 _ hlen
  unfold Co
  rcases qaq xs i with ⟨e1,l1⟩|⟨e1,l1⟩
  ·rcases qaq xs (qaB xs i) with ⟨e2,l2⟩|⟨e2,l2⟩<;>omega
  ·have e3:qay xs (qaB xs i) 8=0:=by rw[e1]; exact l1 8
   have e4:=hz (by rw[e3]; rfl)
   rcases qaq xs (qaB xs i) with ⟨e2,l2⟩|⟨e2,l2⟩<;>omega
 generalize nums[(qay xs (qaB xs i) 8).toNat]'_=vv at hc hn hco
 simp only[nums,qcg,List.map] at hat hc
 refine⟨.int vv,_,⟨hn,rfl,WP _,qiG _,hco⟩,r2,?_⟩
 refine qaa (pf:=F177) rfl rfl ?_
 unfold qjF at h
 by_cases hd:d<=0
 ·rw[if_pos hd] at h
  rcases h with h|h<;>simp[F177,n1,n2,hd,h,hat,hc]
 ·rw[if_neg hd] at h
  rcases h with h|h<;>simp[F177,n1,n2,hd,h,hat,hc]
theorem qqv(h:qjF xs d i=2\/qjF xs d i=3):GIb B v xs d i:=by
 have n1:=qbj (i:=i) (m:=12) hx hl hi (by omega)
 have r1:=qat hi hl
 have n2:=qbj (i:=qaB xs i) (m:=4) hx hl r1 (by omega)
 have r2:=qat r1 hl
 have p:=qbc (i:=qaB xs i) (m:=4) hx (by omega)
 have hat:=qd0 (strC qoA) 4 true (qay xs (qaB xs i) 4) p.1 (by omega)
 obtain⟨s,hs,hc⟩:=qiH (l:=qoA) (p:=qay xs (qaB xs i) 4) (by simpa [qoA] using p)
 simp only[qoA,strC,List.map] at hat hc
 have hsel:qay xs i 12≠0:=fun h0=>by
  unfold qjF at h
  rw[h0] at h
  split at h<;>simp at h
 have hco:Co 2 (E.cost (.var s)) xs i (qaB xs (qaB xs i)):=by
  have hcs : ∀ s∈qoA,s.size<=5:=by decide
  have h5:=hcs s hs
  show _/\_/\((s.size+1:Nat):Int)<=_
  rcases qaq xs i with ⟨e1,l1⟩|⟨e1,l1⟩
  ·rcases qaq xs (qaB xs i) with ⟨e2,l2⟩|⟨e2,l2⟩<;>omega
  ·exact absurd (l1 12) hsel
 refine⟨.var s,_,⟨YA _ hs,rfl,WP _,qiG _,hco⟩,r2,?_⟩
 refine qaa (pf:=F177) rfl rfl ?_
 unfold qjF at h
 by_cases hd:d<=0
 ·rw[if_pos hd] at h
  rcases h with h|h<;>simp[F177,n1,n2,hd,h,hat,hc]
 ·rw[if_neg hd] at h
  rcases h with h|h<;>simp[F177,n1,n2,hd,h,hat,hc]
theorem qnC(h:qjF xs d i=4\/qjF xs d i=5):GIb B v xs d i:=by
 have n1:=qbj (i:=i) (m:=12) hx hl hi (by omega)
 have r1:=qat hi hl
 have n2:=qbj (i:=qaB xs i) (m:=3) hx hl r1 (by omega)
 have r2:=qat r1 hl
 have p:=qbc (i:=qaB xs i) (m:=3) hx (by omega)
 have hat:=qd0 (strC qlF) 3 true (qay xs (qaB xs i) 3) p.1 (by omega)
 obtain⟨s,hs,hc⟩:=qiH (l:=qlF) (p:=qay xs (qaB xs i) 3) (by simpa [qlF] using p)
 simp only[qlF,strC,List.map] at hat hc
 have hsel:qay xs i 12≠0:=fun h0=>by
  unfold qjF at h
  rw[h0] at h
  split at h<;>simp at h
 have hco:Co 2 (E.cost (.name s)) xs i (qaB xs (qaB xs i)):=by
  have hcs : ∀ s∈qlF,s.size<=5:=by decide
  have h5:=hcs s hs
  show _/\_/\((s.size+1:Nat):Int)<=_
  rcases qaq xs i with ⟨e1,l1⟩|⟨e1,l1⟩
  ·rcases qaq xs (qaB xs i) with ⟨e2,l2⟩|⟨e2,l2⟩<;>omega
  ·exact absurd (l1 12) hsel
 refine⟨.name s,_,⟨hs,rfl,WP _,qiG _,hco⟩,r2,?_⟩
 refine qaa (pf:=F177) rfl rfl ?_
 unfold qjF at h
 by_cases hd:d<=0
 ·rw[if_pos hd] at h
  rcases h with h|h<;>simp[F177,n1,n2,hd,h,hat,hc]
 ·rw[if_neg hd] at h
  rcases h with h|h<;>simp[F177,n1,n2,hd,h,hat,hc]
theorem qqw(hd : ¬ d<=0)(hd2:d<=1000)(ih : ∀ j,0<=j/\j<=B->GIb B v xs (d-1) j)(h:qay xs i 12=6\/qay xs i 12=7):GIb B v xs d i:=by
 have n1:=qbj (i:=i) (m:=12) hx hl hi (by omega)
 have r1:=qat hi hl
 have n2:=qbj (i:=qaB xs i) (m:=8) hx hl r1 (by omega)
 have r2:=qat r1 hl
 have p:=qbc (i:=qaB xs i) (m:=8) hx (by omega)
 have hat:=qd0 (strC qdM) 8 true (qay xs (qaB xs i) 8) p.1 (by omega)
 obtain⟨s,hs,hc⟩:=qiH (l:=qdM) (p:=qay xs (qaB xs i) 8) (by simpa [qdM,qf8] using p)
 simp only[qdM,qf8,strC,List.map,Wh,Wf] at hat hc
 obtain⟨e,i',h1,h2,h3⟩:=ih _ r2
 have o:=qqt 11 s e.kind e.num e.str e.kids (by simp) (by simp)
 have w1:=qah (d-1) (by omega)
 have ed:d.toNat=(d-1).toNat+1:=by omega
 have hco:Co 2 (E.cost (.field true s e)) xs i i':=by
  have hcs : ∀ s∈qdM,s.size<=5:=by decide
  have h5:=hcs s hs
  obtain⟨q1,q2,q3⟩:=h1.2.2.2.2
  show _/\_/\((s.size+5+e.cost:Nat):Int)<=_
  rcases qaq xs i with ⟨e1,l1⟩|⟨e1,l1⟩
  ·rcases qaq xs (qaB xs i) with ⟨e2,l2⟩|⟨e2,l2⟩<;>omega
  ·exact absurd (l1 12) (by omega)
 refine⟨.field true s e,i',⟨⟨hs,h1.1,h1.2.1⟩,by simp[h1.2.1],by rw[ed]; simp only[E.dp]; omega,by rw[ed]; simp only[mxs,qox]; omega,hco⟩,h2,?_⟩
 refine qaa (pf:=F177) rfl rfl ?_
 rcases h with h|h<;>simp[F177,n1,n2,hd,h,hat,hc,h3,o,w1]
theorem qvz(hd : ¬ d<=0)(hd2:d<=1000)(ih : ∀ j,0<=j/\j<=B->GIb B v xs (d-1) j)(h:qay xs i 12=8):GIb B v xs d i:=by
 have n1:=qbj (i:=i) (m:=12) hx hl hi (by omega)
 have r1:=qat hi hl
 obtain⟨e,i',h1,h2,h3⟩:=ih _ r1
 have o:=qqt 13 ⟨#[45]⟩ e.kind e.num e.str e.kids (by simp) (by simp)
 have w1:=qah (d-1) (by omega)
 have ed:d.toNat=(d-1).toNat+1:=by omega
 have hco:Co 2 (E.cost (.un true true e)) xs i i':=by
  obtain⟨q1,q2,q3⟩:=h1.2.2.2.2
  show _/\_/\((6+e.cost:Nat):Int)<=_
  rcases qaq xs i with ⟨e1,l1⟩|⟨e1,l1⟩
  ·omega
  ·exact absurd (l1 12) (by omega)
 refine⟨.un true true e,i',⟨⟨h1.1,h1.2.1⟩,by simp[h1.2.1],by rw[ed]; simp only[E.dp]; omega,by rw[ed]; simp only[mxs,qqn]; omega,hco⟩,h2,?_⟩
 refine qaa (pf:=F177) rfl rfl ?_
 simp[F177,n1,hd,h,h3,o,w1,ustr]
theorem qvA(hd : ¬ d<=0)(hd2:d<=1000)(ih : ∀ j,0<=j/\j<=B->GIb B v xs (d-1) j)(h:9<=qay xs i 12):GIb B v xs d i:=by
 have n1:=qbj (i:=i) (m:=12) hx hl hi (by omega)
 have r1:=qat hi hl
 have n2:=qbj (i:=qaB xs i) (m:=4) hx hl r1 (by omega)
 have r2:=qat r1 hl
 have p:=qbc (i:=qaB xs i) (m:=4) hx (by omega)
 have hat:=qd0 (strC [⟨#[43]⟩,⟨#[45]⟩,⟨#[42]⟩,⟨#[47]⟩]) 4 true (qay xs (qaB xs i) 4) p.1 (by omega)
 obtain⟨o,ho,hc⟩:=qvy p
 simp only[strC,List.map] at hat hc
 obtain⟨a,i1,h1,h2,h3⟩:=ih _ r2
 obtain⟨b,i2,h4,h5,h6⟩:=ih _ h2
 have ot:=qoz 14 o.str a.kind a.num b.kind b.num a.str b.str a.kids b.kids (by simp) (by simp) (by simp) (by simp)
 have w1:=qah (d-1) (by omega)
 have ed:d.toNat=(d-1).toNat+1:=by omega
 have ho1:o.opd=1/\o.res=1:=by
  simp only[qv6,Wq,Ww,or_false] at ho
  rcases ho with rfl|rfl|rfl|rfl<;>exact⟨rfl,rfl⟩
 have hco:Co 2 (E.cost (.bin true o a b)) xs i i2:=by
  have ho2:o.str.size<=2:=by cases o<;>decide
  obtain⟨q1,q2,q3⟩:=h1.2.2.2.2
  obtain⟨q4,q5,q6⟩:=h4.2.2.2.2
  show _/\_/\((o.str.size+5+(a.cost+b.cost):Nat):Int)<=_
  rcases qaq xs i with ⟨e1,l1⟩|⟨e1,l1⟩
  ·rcases qaq xs (qaB xs i) with ⟨e2,l2⟩|⟨e2,l2⟩<;>omega
  ·exact absurd (l1 12) (by omega)
 refine⟨.bin true o a b,i2,⟨⟨h1.1,h4.1,by rw[ho1.1]; exact h1.2.1,by rw[ho1.1]; exact h4.2.1⟩,by simp[h1.2.1,h4.2.1,ho1.1,ho1.2],by rw[ed]; simp only[E.dp]; omega,by rw[ed]; simp only[mxs,qkw]; omega,hco⟩,h5,?_⟩
 refine qaa (pf:=F177) rfl rfl ?_
 have k0 : ¬ qay xs i 12=0:=by omega
 have k1 : ¬ qay xs i 12=1:=by omega
 have k2 : ¬ qay xs i 12=2:=by omega
 have k3 : ¬ qay xs i 12=3:=by omega
 have k4 : ¬ qay xs i 12=4:=by omega
 have k5 : ¬ qay xs i 12=5:=by omega
 have k6 : ¬ qay xs i 12=6:=by omega
 have k7 : ¬ qay xs i 12=7:=by omega
 have k8 : ¬ qay xs i 12=8:=by omega
 simp[F177,n1,n2,hd,k0,k1,k2,k3,k4,k5,k6,k7,k8,hat,hc,h3,h6,ot,w1]
end
end
end Go.Pm
