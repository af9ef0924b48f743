/- The abstract machine's program, printed by a program of our own: part 2. -/
import Derived.Test.YtmigbfimahjacaaGreatDoorPmFSa
import Derived.Test.YtmigbfimahjacaaGreatDoorPmAL
import Derived.Test.YtmigbfimahjacaaGreatDoorPmR
import Derived.Test.YtmigbfimahjacaaGreatDoorPmKb
import Derived.KernelRfl
set_option linter.unusedSimpArgs false
set_option linter.unusedVariables false
set_option maxHeartbeats 4000000
section
namespace Go.Pm.F
variable(C:Task->Option Res)(q:Nat)(fr:Fr)(σ : S)
def F607:PFun:=⟨1,[],.seq (.seq (.region (some []) [mv 5 0,nc 6 5,fa 7 23 6,l1 8 7,mv 9 0,nc 10 9,fa 11 24 10,l1 12 11,bn 13 .eql 8 12,mv 14 13,jf 15 14 (.mov (.t 0)),jf 16 14 (.mov (.t 0)),jf 17 14 (.nilchk (.t 16)),jf 18 14 (.fieldAddr 23 (.t 17)),jf 19 14 (.load false 1 (.t 18)),jf 20 14 (.call 600 [(.t 15),(.t 19)]),jf 21 14 (.un .not (.t 20)),jj 22 (.pick (.t 14) kT (.t 21))] [0,22] [15]) (.cond (.t 22) (.ret) (.skip))) (.seq (.region (some [(82,[zN,zN,zN,zN,zN]),(83,[zN,zN,zN,zN,zN])]) [mv 23 0,mv 24 0,nc 25 24,fa 26 23 25,l1 27 26,cl 28 601 [23,27],mv 29 0,mv 30 0,nc 31 30,fa 32 24 31,⟨some 33,.load false 1 (.t 32),none,[5]⟩,cl 34 601 [29,33],⟨some 2,.fill 82,none,[5,11]⟩,⟨some 3,.fill 83,none,[5,11]⟩,st 5 2 28,st 5 3 34] [0,2,3]) (.seq (.region (some []) [mv 35 0,nc 36 35,fa 37 1 36,fa 38 1 37,l1 39 38,mv 40 0,nc 41 40,fa 42 23 41,l1 43 42,jj 44 (.indexAddr 9 (.t 39) (.t 43)),fa 45 0 44,la 46 2 45,fa 47 0 2,la 48 2 47,fa 49 2 2,la 50 2 49,mv 51 0,nc 52 51,fa 53 1 52,fa 54 1 53,l1 55 54,mv 56 0,nc 57 56,fa 58 24 57,l1 59 58,jj 60 (.indexAddr 9 (.t 55) (.t 59)),fa 61 0 60,la 62 2 61,fa 63 0 3,la 64 2 63,jj 65 (.build [zN,zN] []),cl 66 641 [46,48,50,62,64,65],mv 4 66] [0,4] [31]) (.seq (rn [mv 67 4,mv 68 0,nc 69 68,fa 70 0 69,l1 71 70,jj 72 (.invoke [(0,51)] (.t 71) [(kk 5)]),bn 73 .lss 67 72] [0,4,73]) (.cond (.t 73) (rn [mv 74 0,nc 75 74,fa 76 0 75,l1 77 76,mv 78 4,jj 79 (.invoke [(0,114)] (.t 77) [(kk 5),(.t 78)])] []) (.skip))))),false,false,false,false⟩
@[simp] def F1001l0x:PC:=(.seq (.seq (rn [mv 16 6,mv 17 0,ls 18 17,bn 19 .lss 16 18] [0,1,5,6,19]) (.cond (.t 19) (.skip) (.exit 0))) (.seq (.block 1 (.seq (rn [mv 22 0,mv 23 6,jj 24 (.indexAddr 4 (.t 22) (.t 23)),la 25 4 24,jj 7 (.alloc [zN,zN,zN,zN]),st 4 7 25] [0,1,5,6,7]) (.seq (rn [mv 26 1,la 27 4 7,jj 28 (.callv (.t 26) [(.t 27)]),jj 29 (.un .not (.t 28))] [0,1,5,6,7,29]) (.cond (.t 29) (.seq (rn [mv 30 0,mv 31 5,la 32 4 7,jj 33 (.indexAddr 4 (.t 30) (.t 31)),st 4 33 32] [0,1,5,6]) (rn [mv 34 5,bk 35 .add 34 1,mv 5 35] [0,1,5,6])) (.skip))))) (rn [mv 20 6,bk 21 .add 20 1,mv 6 21] [0,1,5,6])))
def F1001l0:PC:=F1001l0x
def F1001:PFun:=⟨2,[.tmp 4],.seq (rn [jj 4 (.mov (.c (.slice none 0 0)))] [0,1]) (.seq (rn [mv 8 0,mv 9 1,cl 10 1002 [8,9],mv 5 10] [0,1,5]) (.seq (.seq (rn [mv 11 5,bk 12 .eql 11 (-1)] [0,1,5,12]) (.cond (.t 12) (.seq (rn [mv 13 0,mv 4 13] [4]) (.ret)) (.skip))) (.seq (.seq (rn [mv 14 5,bk 15 .add 14 1,mv 6 15] [0,1,5,6]) (.block 0 (.loop F1001l0))) (.seq (rn [mv 36 0,mv 37 5,jj 38 (.cut 4 (.t 36) (some (.t 37)) none),jn (.clr [zN,zN,zN,zN] (.t 38))] [0,5]) (.seq (rn [mv 39 0,mv 40 5,jj 41 (.cut 4 (.t 39) none (some (.t 40))),mv 4 41] [4]) (.ret)))))),true,false,false,false⟩
@[simp] def F1002l0x:PC:=(.seq (rn [bn 9 .lss 8 7] [0,1,7,8,9]) (.seq (.cond (.t 9) (.skip) (.exit 0)) (.seq (.block 1 (.seq (rn [mv 10 8,mv 5 10] [0,1,5,7,8]) (.seq (rn [mv 11 1,mv 12 0,mv 13 5,jj 14 (.indexAddr 4 (.t 12) (.t 13)),la 15 4 14,jj 16 (.callv (.t 11) [(.t 15)])] [0,1,5,7,8,16]) (.cond (.t 16) (.seq (rn [mv 17 5,mv 4 17] [4]) (.ret)) (.skip))))) (rn [bk 18 .add 8 1,mv 8 18] [0,1,7,8]))))
def F1002l0:PC:=F1002l0x
def F1002:PFun:=⟨2,[.tmp 4],.seq (rn [mx 4 (kk 0)] [0,1]) (.seq (.seq (rn [mv 6 0,ls 7 6,mx 8 (kk 0)] [0,1,7,8]) (.block 0 (.loop F1002l0))) (.seq (rn [mx 4 (kk (-1))] [4]) (.ret))),false,false,false,false⟩
def F1003:PFun:=⟨1,[.tmp 2],.seq (rn [jj 2 (.mov (.c (.slice none 0 0)))] [0]) (.seq (.seq (rn [mv 3 0,jj 4 (.isnils false (.t 3))] [0,4]) (.cond (.t 4) (.seq (rn [jj 2 (.mov (.c (.slice none 0 0)))] [2]) (.ret)) (.skip))) (.seq (rn [jj 5 (.bslice 0 [] []),mv 6 0,jj 7 (.appendO 4 32 (.t 5) (.t 6)),mv 2 7] [2]) (.ret))),false,false,false,false⟩
def F1004:PFun:=⟨2,[],rn [mv 4 0,mv 5 0,ls 6 5,mv 7 1,cl 8 1007 [4,6,7]] [],false,false,false,false⟩
@[simp] def F1005l1x:PC:=(.seq (.seq (.region (some []) [mv 18 9,mv 19 1,bn 20 .gtr 18 19,mv 21 20,jt 22 21 (.mov (.t 3)),jt 23 21 (.mov (.t 0)),jt 24 21 (.mov (.t 9)),jt 25 21 (.indexAddr 5 (.t 23) (.t 24)),jt 26 21 (.load true 5 (.t 25)),jt 27 21 (.mov (.t 0)),jt 28 21 (.mov (.t 9)),jt 29 21 (.bin .sub (.t 28) (kk 1)),jt 30 21 (.indexAddr 5 (.t 27) (.t 29)),jt 31 21 (.load true 5 (.t 30)),jt 32 21 (.callv (.t 22) [(.t 26),(.t 31)]),jt 33 21 (.bin .lss (.t 32) (kk 0)),jj 34 (.pick (.t 21) (.t 33) kF)] [0,1,2,3,8,9,34] [14]) (.cond (.t 34) (.skip) (.exit 2))) (.seq (.block 3 (.region (some []) [mv 37 0,mv 38 9,mv 39 0,mv 40 9,bk 41 .sub 40 1,mv 42 0,mv 43 9,bk 44 .sub 43 1,jj 45 (.indexAddr 5 (.t 42) (.t 44)),la 46 5 45,mv 47 0,mv 48 9,jj 49 (.indexAddr 5 (.t 47) (.t 48)),la 50 5 49,jj 51 (.indexAddr 5 (.t 37) (.t 38)),st 5 51 46,jj 52 (.indexAddr 5 (.t 39) (.t 41)),st 5 52 50] [0,1,2,3,8,9])) (rn [mv 35 9,bk 36 .sub 35 1,mv 9 36] [0,1,2,3,8,9])))
def F1005l1:PC:=F1005l1x
theorem qfs:run C q F1005l1 fr σ = run C q F1005l1x fr σ := rfl
@[simp] def F1005l0x:PC:=(.seq (.seq (rn [mv 12 8,mv 13 2,bn 14 .lss 12 13] [0,1,2,3,8,14]) (.cond (.t 14) (.skip) (.exit 0))) (.seq (.block 1 (.seq (rn [mv 17 8,mv 9 17] [0,1,2,3,8,9]) (.block 2 (.loop F1005l1)))) (rn [mv 15 8,bk 16 .add 15 1,mv 8 16] [0,1,2,3,8])))
def F1005l0:PC:=F1005l0x
theorem qh7:run C q F1005l0 fr σ = run C q F1005l0x fr σ := rfl
def F1005:PFun:=⟨4,[],.seq (rn [mv 10 1,bk 11 .add 10 1,mv 8 11] [0,1,2,3,8]) (.block 0 (.loop F1005l0)),false,false,false,false⟩
@[simp] def F1007l0x:PC:=(.seq (.seq (rn [mv 11 8,mv 12 1,bn 13 .leq 11 12] [0,1,2,6,7,8,13]) (.cond (.t 13) (.skip) (.exit 0))) (.block 1 (.seq (rn [mv 14 0,mv 15 7,mv 16 8,mv 17 2,cl 18 1005 [14,15,16,17]] [0,1,2,6,8]) (.seq (rn [mv 19 8,mv 7 19] [0,1,2,6,7,8]) (rn [mv 20 8,mv 21 6,bn 22 .add 20 21,mv 8 22] [0,1,2,6,7,8])))))
def F1007l0:PC:=F1007l0x
theorem qmz:run C q F1007l0 fr σ = run C q F1007l0x fr σ := rfl
@[simp] def F1007l2x:PC:=(.seq (.seq (rn [mv 33 8,mv 34 1,bn 35 .leq 33 34] [0,1,2,6,7,8,35]) (.cond (.t 35) (.skip) (.exit 4))) (.block 5 (.seq (rn [mv 36 0,mv 37 7,mv 38 7,mv 39 6,bn 40 .add 38 39,mv 41 8,mv 42 2,cl 43 1009 [36,37,40,41,42]] [0,1,2,6,8]) (.seq (rn [mv 44 8,mv 7 44] [0,1,2,6,7,8]) (rn [mv 45 8,mv 46 6,jj 47 (.bin .mul (kk 2) (.t 46)),bn 48 .add 45 47,mv 8 48] [0,1,2,6,7,8])))))
def F1007l2:PC:=F1007l2x
@[simp] def F1007l1x:PC:=(.seq (.seq (rn [mv 28 6,mv 29 1,bn 30 .lss 28 29] [0,1,2,6,30]) (.cond (.t 30) (.skip) (.exit 2))) (.block 3 (.seq (rn [mv 31 6,jj 32 (.bin .mul (kk 2) (.t 31)),mx 7 (kk 0),mv 8 32] [0,1,2,6,7,8]) (.seq (.block 4 (.loop F1007l2)) (.seq (.seq (rn [mv 49 7,mv 50 6,bn 51 .add 49 50,mv 9 51] [0,1,2,6,7,9]) (.seq (rn [mv 52 9,mv 53 1,bn 54 .lss 52 53] [0,1,2,6,7,9,54]) (.cond (.t 54) (rn [mv 55 0,mv 56 7,mv 57 9,mv 58 1,mv 59 2,cl 60 1009 [55,56,57,58,59]] [0,1,2,6]) (.skip)))) (rn [mv 61 6,bk 62 .mul 61 2,mv 6 62] [0,1,2,6]))))))
def F1007l1:PC:=F1007l1x
theorem qmA:run C q F1007l1 fr σ = run C q F1007l1x fr σ := rfl
def F1007:PFun:=⟨3,[],.seq (rn [mx 6 (kk 20)] [0,1,2,6]) (.seq (rn [mv 10 6,mx 7 (kk 0),mv 8 10] [0,1,2,6,7,8]) (.seq (.block 0 (.loop F1007l0)) (.seq (rn [mv 23 0,mv 24 7,mv 25 1,mv 26 2,cl 27 1005 [23,24,25,26]] [0,1,2,6]) (.block 2 (.loop F1007l1))))),false,false,false,false⟩
end Go.Pm.F
end
section
namespace Go.Pm.F
end Go.Pm.F
end
section
namespace Go.Pm
inductive Tr where
 |nil
 |node (l:Tr) (k:Nat) (f:PFun) (r:Tr)
def Tr.get:Tr->Nat->Option PFun
 |.nil,_=>none
 |.node l k f r,n=>cond (Nat.beq n k) (some f) (cond (Nat.ble n k) (l.get n) (r.get n))
namespace F
def progST:Tr:=(.node (.node (.node (.node (.node (.node (.node (.node .nil 12 F12 .nil) 15 F15 (.node .nil 17 F17 .nil)) 26 F26 (.node (.node .nil 27 F27 .nil) 30 F30 (.node .nil 32 F32 .nil))) 35 F35 (.node (.node (.node .nil 37 F37 .nil) 38 F38 (.node .nil 39 F39 .nil)) 45 F45 (.node (.node .nil 46 F46 .nil) 49 F49 .nil))) 51 F51 (.node (.node (.node (.node .nil 59 F59 .nil) 60 F60 (.node .nil 62 F62 .nil)) 73 F73 (.node (.node .nil 100 F100 .nil) 110 F110 (.node .nil 111 F111 .nil))) 112 F112 (.node (.node (.node .nil 113 F113 .nil) 114 F114 (.node .nil 131 F131 .nil)) 134 F134 (.node (.node .nil 139 F139 .nil) 140 F140 .nil)))) 147 F147 (.node (.node (.node (.node (.node .nil 148 F148 .nil) 164 F164 (.node .nil 165 F165 .nil)) 166 F166 (.node (.node .nil 167 F167 .nil) 168 F168 (.node .nil 169 F169 .nil))) 180 F180 (.node (.node (.node .nil 181 F181 .nil) 182 F182 (.node .nil 183 F183 .nil)) 187 F187 (.node (.node .nil 188 F188 .nil) 189 F189 .nil))) 190 F190 (.node (.node (.node (.node .nil 191 F191 .nil) 200 F200 (.node .nil 201 F201 .nil)) 204 F204 (.node (.node .nil 228 F228 .nil) 239 F239 (.node .nil 240 F240 .nil))) 241 F241 (.node (.node (.node .nil 242 F242 .nil) 249 F249 (.node .nil 250 F250 .nil)) 251 F251 (.node (.node .nil 252 F252 .nil) 253 F253 .nil))))) 254 F254 (.node (.node (.node (.node (.node (.node .nil 256 F256 .nil) 264 F264 (.node .nil 265 F265 .nil)) 266 F266 (.node (.node .nil 267 F267 .nil) 268 F268 (.node .nil 269 F269 .nil))) 270 F270 (.node (.node (.node .nil 271 F271 .nil) 275 F275 (.node .nil 276 F276 .nil)) 277 F277 (.node (.node .nil 278 F278 .nil) 279 F279 .nil))) 280 F280 (.node (.node (.node (.node .nil 281 F281 .nil) 284 F284 (.node .nil 285 F285 .nil)) 286 F286 (.node (.node .nil 287 F287 .nil) 289 F289 (.node .nil 290 F290 .nil))) 292 F292 (.node (.node (.node .nil 297 F297 .nil) 303 F303 (.node .nil 304 F304 .nil)) 307 F307 (.node (.node .nil 308 F308 .nil) 309 F309 .nil)))) 317 F317 (.node (.node (.node (.node (.node .nil 318 F318 .nil) 322 F322 (.node .nil 323 F323 .nil)) 324 F324 (.node (.node .nil 325 F325 .nil) 326 F326 (.node .nil 327 F327 .nil))) 328 F328 (.node (.node (.node .nil 329 F329 .nil) 330 F330 (.node .nil 331 F331 .nil)) 359 F359 (.node (.node .nil 362 F362 .nil) 363 F363 .nil))) 364 F364 (.node (.node (.node (.node .nil 365 F365 .nil) 366 F366 (.node .nil 367 F367 .nil)) 371 F371 (.node (.node .nil 372 F372 .nil) 373 F373 (.node .nil 374 F374 .nil))) 375 F375 (.node (.node (.node .nil 376 F376 .nil) 377 F377 (.node .nil 378 F378 .nil)) 379 F379 (.node (.node .nil 380 F380 .nil) 381 F381 .nil)))))) 382 F382 (.node (.node (.node (.node (.node (.node (.node .nil 383 F383 .nil) 384 F384 (.node .nil 385 F385 .nil)) 386 F386 (.node (.node .nil 387 F387 .nil) 388 F388 (.node .nil 389 F389 .nil))) 390 F390 (.node (.node (.node .nil 391 F391 .nil) 392 F392 (.node .nil 393 F393 .nil)) 398 F398 (.node (.node .nil 399 F399 .nil) 400 F400 .nil))) 401 F401 (.node (.node (.node (.node .nil 402 F402 .nil) 403 F403 (.node .nil 404 F404 .nil)) 405 F405 (.node (.node .nil 406 F406 .nil) 407 F407 (.node .nil 408 F408 .nil))) 409 F409 (.node (.node (.node .nil 410 F410 .nil) 411 F411 (.node .nil 412 F412 .nil)) 413 F413 (.node (.node .nil 414 F414 .nil) 415 F415 .nil)))) 417 F417 (.node (.node (.node (.node (.node .nil 418 F418 .nil) 419 F419 (.node .nil 420 F420 .nil)) 423 F423 (.node (.node .nil 424 F424 .nil) 425 F425 (.node .nil 426 F426 .nil))) 428 F428 (.node (.node (.node .nil 429 F429 .nil) 430 F430 (.node .nil 431 F431 .nil)) 432 F432 (.node (.node .nil 433 F433 .nil) 434 F434 .nil))) 436 F436 (.node (.node (.node (.node .nil 437 F437 .nil) 438 F438 (.node .nil 439 F439 .nil)) 440 F440 (.node (.node .nil 454 F454 .nil) 455 F455 (.node .nil 456 F456 .nil))) 457 F457 (.node (.node (.node .nil 458 F458 .nil) 461 F461 (.node .nil 463 F463 .nil)) 464 F464 (.node (.node .nil 467 F467 .nil) 468 F468 .nil))))) 469 F469 (.node (.node (.node (.node (.node (.node .nil 470 F470 .nil) 471 F471 (.node .nil 473 F473 .nil)) 474 F474 (.node (.node .nil 476 F476 .nil) 479 F479 (.node .nil 480 F480 .nil))) 481 F481 (.node (.node (.node .nil 482 F482 .nil) 483 F483 (.node .nil 484 F484 .nil)) 486 F486 (.node (.node .nil 487 F487 .nil) 489 F489 .nil))) 490 F490 (.node (.node (.node (.node .nil 492 F492 .nil) 495 F495 (.node .nil 500 F500 .nil)) 501 F501 (.node (.node .nil 502 F502 .nil) 503 F503 (.node .nil 504 F504 .nil))) 505 F505 (.node (.node (.node .nil 506 F506 .nil) 508 F508 (.node .nil 509 F509 .nil)) 512 F512 (.node (.node .nil 515 F515 .nil) 516 F516 .nil)))) 520 F520 (.node (.node (.node (.node (.node .nil 523 F523 .nil) 525 F525 (.node .nil 531 F531 .nil)) 532 F532 (.node (.node .nil 533 F533 .nil) 535 F535 (.node .nil 536 F536 .nil))) 547 F547 (.node (.node (.node .nil 558 F558 .nil) 559 F559 (.node .nil 560 F560 .nil)) 561 F561 (.node (.node .nil 562 F562 .nil) 563 F563 .nil))) 564 F564 (.node (.node (.node (.node .nil 565 F565 .nil) 597 F597 (.node .nil 598 F598 .nil)) 599 F599 (.node (.node .nil 600 F600 .nil) 606 F606 .nil)) 607 F607 (.node (.node (.node .nil 1001 F1001 .nil) 1002 F1002 (.node .nil 1003 F1003 .nil)) 1004 F1004 (.node (.node .nil 1005 F1005 .nil) 1007 F1007 .nil)))))))
end F
end Go.Pm
end
namespace Go.Pm
section
def Tr.all(p:Nat->PFun->Prop):Tr->Prop
 |.nil=>True
 |.node l k f r=>l.all p/\p k f/\r.all p
theorem Tr.all_get{p:Nat->PFun->Prop} : ∀ {t:Tr},t.all p -> ∀ {n:Nat} {f:PFun},t.get n=some f->p n f
 |.nil,_,n,f,h=>by cases h
 |.node l k f r,⟨hl,hp,hr⟩,n,g,h=>by
  simp only[Tr.get] at h
  cases hb:Nat.beq n k with
  |true=>rw[hb] at h; cases h; rw[Nat.eq_of_beq_eq_true hb]; exact hp
  |false=>
   rw[hb] at h
   cases hc:Nat.ble n k with
   |true=>rw[hc] at h; exact Tr.all_get hl h
   |false=>rw[hc] at h; exact Tr.all_get hr h
end
section
def PC.ks:PC->Code->List (Nat × List Nat)
 |.region _ _ k _,.region id _ _=>[(id,k)]
 |.seq a b,.seq x y=>a.ks x++b.ks y
 |.cond _ a b,.cond _ x y=>a.ks x++b.ks y
 |.range _ _ a b,.rangeFunc _ _ x y=>a.ks x++b.ks y
 |.block _ a,.block _ x=>a.ks x
 |.loop a,.loop x=>a.ks x
 |a,.scope x=>a.ks x
 |_,_=>[]
def PFun.ks(F:PFun)(f:Func)(i:Nat):List Nat:=match f.body with
 |some c=>match (F.body.ks c).find? fun x=>x.1==i with
  |some x=>if F.df then x.2.tail else x.2
  |none=>[]
 |none=>[]
theorem tq{P:Program}{ids:Ids}{n:FuncId}{F:PFun}{f:Func}(ow:Bool)(h:P.funcs[n]?=some f)(e:compF P ids (F.ks f) (F.noseal,F.fz) ow F.df F.catches f=some F) : ∃ fn K ns ow df,P.funcs[n]?=some fn/\compF P ids K ns ow df F.catches fn=some F:=⟨f,_,_,ow,_,h,e⟩
def toL(l:List (Nat × Nat))(f:Nat):Option Nat:=(l.find? fun x=>x.1==f).map (·.2)
def ofL(l:List (Nat × Nat))(g:Nat):Nat:=((l.find? fun x=>x.2==g).map (·.1)).getD 0
theorem prs{l:List (Nat × Nat)}(h:(l.all fun x=>ofL l x.2==x.1)=true){f g:Nat}(e:toL l f=some g):ofL l g=f:=by
 unfold toL at e
 cases hx:l.find? (fun x=>x.1==f) with
 |none=>rw[hx] at e; cases e
 |some x=>
  rw[hx] at e
  have h1:=List.find?_some hx
  have h2:=Ws.1 h x (List.mem_of_find?_eq_some hx)
  simp only[WO,Wd,beq_iff_eq] at e h1 h2
  rw[<- e,h2,h1]
end
section
open F
abbrev prX:Nat->Option PFun:=progST.get
attribute [local simp] V.len qai qao qap
noncomputable def qr6(cs:List V):Bool:=List.rec (motive:=fun _=>Bool) true (fun v _ ih=>V.casesOn (motive_1:=fun _=>Bool) v (fun _=>ih) (fun _ _=>false) (fun _ _ _ _=>false) (fun _ _ _ _ _=>false) (fun _ _ _=>false) (fun _ _ _=>false) (fun _ _ _ _ _=>false) (fun _ _=>false) (fun _ _=>false) (fun _=>false) (fun _ _ _=>false) (fun _=>false) (fun _ _=>false) (fun _=>false) (fun _=>false) (fun _=>false)) cs
structure Dats(cs:List V):Prop where
 l:qau cs=[]
 r : ∀ f,qbl f cs=cs
theorem qhl : ∀ {cs:List V},qr6 cs=true->Dats cs
 |[],_=>⟨rfl,fun _=>rfl⟩
 |v::cs,h=>by
  cases v with
  |dat d=>
   have ih:=qhl (cs:=cs) h
   exact⟨by simp[qau,ih.l],fun f=>by simp[qbl,ih.r]⟩
  |_=>cases h
section
variable{cs:List V}{n:Nat}{lg:List D}{k t:Nat}{i:Nat}{v w:Int}
abbrev me0(cs:List V)(n:Nat):S:=[.cells [.msl 1 0 n n 1,.dat (.lit (.slice none 0 0)),.int 0],.cells cs]
abbrev me1(cs:List V)(n:Nat)(lg:List D)(k t:Nat):S:=[.cells [.msl 1 0 n n 1,.gsl lg k 2 2,.int 0],.cells cs,.tip t]
theorem qsW(hd:Dats cs)(h:i<n):Z prX (.call 62 [.ptr 0 0,.int i] (me0 cs n))=some (.ret (.bool true) (me0 cs n)):=by
 refine qaD (pf:=F62) rfl rfl ?_
 have h1:(i:Int)<n:=by omega
 simp[F62,hd.l,hd.r,h,h1,Wa]
theorem qsX(hd:Dats cs)(h:i<n):Z prX (.call 62 [.ptr 0 0,.int i] (me1 cs n lg k t))=some (.ret (.bool true) (me1 cs n lg k t)):=by
 refine qaD (pf:=F62) rfl rfl ?_
 have h1:(i:Int)<n:=by omega
 simp[F62,hd.l,hd.r,h,h1,Wa]
theorem qwD(hd:Dats cs)(h:i<n)(hc:qad cs i 1=some [.int v]):Z prX (.call 51 [.ptr 0 0,.int i] (me0 cs n))=some (.ret (.int v) (me0 cs n)):=by
 refine qaD (pf:=F51) rfl rfl ?_
 have h2:=qsW hd h
 have h1:(i:Int)<n:=by omega
 simp[F51,hd.l,hd.r,h2,h,h1,hc,Wa]
theorem qwE(hd:Dats cs)(h:i<n)(hc:qad cs i 1=some [.int v]):Z prX (.call 51 [.ptr 0 0,.int i] (me1 cs n lg k t))=some (.ret (.int v) (me1 cs n lg k t)):=by
 refine qaD (pf:=F51) rfl rfl ?_
 have h2:=qsX (lg:=lg) (k:=k) (t:=t) hd h
 have h1:(i:Int)<n:=by omega
 simp[F51,hd.l,hd.r,h2,h,h1,hc,Wa]
theorem qwF(hd:Dats cs)(hd':Dats (cs.take i++(.int w::cs.drop (i+1))))(h:i<n)(hn:i+1<=cs.length)(hc:qad cs i 1=some [.int v]):Z prX (.call 114 [.ptr 0 0,.int i,.int w] (me0 cs n))=some (.ret (.tup []) (me1 (cs.take i++(.int w::cs.drop (i+1))) n [.lit (.int .i64 i),.lit (.int .i64 v)] 1 2)):=by
 refine qaD (pf:=F114) rfl rfl ?_
 have h2:=qsW hd h
 have h1:(i:Int)<n:=by omega
 simp[F114,hd.l,hd.r,hd'.l,hd'.r,h2,h,h1,hc,hn,Wa,qbs,qlj,qaA,qot,qh4]
theorem qwG(hd:Dats cs)(hd':Dats (cs.take i++(.int w::cs.drop (i+1))))(h:i<n)(hn:i+1<=cs.length)(hl:lg.length=k*2)(hk:k<2 ^ 30)(hc:qad cs i 1=some [.int v]):Z prX (.call 114 [.ptr 0 0,.int i,.int w] (me1 cs n lg k (k*2)))=some (.ret (.tup []) (me1 (cs.take i++(.int w::cs.drop (i+1))) n (lg++[.lit (.int .i64 i),.lit (.int .i64 v)]) (k+1) ((k+1)*2))):=by
 refine qaD (pf:=F114) rfl rfl ?_
 have h2:=qsX (lg:=lg) (k:=k) (t:=k*2) hd h
 have h1:(i:Int)<n:=by omega
 have h5:qaA (k+1) 16=true:=by simp[qaA]; omega
 simp[F114,hd.l,hd.r,hd'.l,hd'.r,h2,h,h1,h5,hl,hc,hn,Wa,qbs,qlj,qot,qh4]
 try omega
end
universe u
section
variable{α : Type u}
noncomputable def qyh(w:V)(cs:List V)(i:Nat)(k:List V -> α) : α := List.rec (motive:=fun _=>Nat->(List V -> α) -> α) (fun _ k=>k []) (fun v r ih i k=>Nat.rec (motive:=fun _ => α) (k (w::r)) (fun j _=>ih j fun t=>k (v::t)) i) cs i k
theorem qmF(w:V) : ∀ (cs:List V) (i:Nat) (k:List V -> α),i<cs.length->qyh w cs i k=k (cs.take i++w::cs.drop (i+1))
 |[],_,_,h=>by simp at h
 |v::r,0,k,_=>rfl
 |v::r,i+1,k,h=>by
  show qyh w r i (fun t=>k (v::t))=_
  rw[qmF w r i _ (by simpa using h)]
  rfl
noncomputable def apD(b:List D)(a:List D)(k:List D -> α) : α := List.rec (motive:=fun _=>(List D -> α) -> α) (fun k=>k b) (fun d _ ih k=>ih fun t=>k (d::t)) a k
theorem qsY(b:List D) : ∀ (a:List D) (k:List D -> α),apD b a k=k (a++b)
 |[],_=>rfl
 |d::a,k=>by
  show apD b a (fun t=>k (d::t))=_
  rw[qsY b a]; rfl
end
noncomputable def qyR(cs:List V)(i:Nat):Option V:=List.rec (motive:=fun _=>Nat->Option V) (fun _=>none) (fun v _ ih i=>Nat.rec (motive:=fun _=>Option V) (some v) (fun j _=>ih j) i) cs i
theorem qqj : ∀ {cs:List V} {i:Nat} {v:V},qyR cs i=some v->i<cs.length/\qad cs i 1=some [v]
 |[],_,_,h=>by cases h
 |x::cs,0,v,h=>by cases h; exact⟨by simp,rfl⟩
 |x::cs,i+1,v,h=>by
  have h':qyR cs i=some v:=h
  obtain⟨h1,h2⟩:=qqj h'
  refine⟨by simp; omega,?_⟩
  simpa [qad] using h2
noncomputable def qyS(l:List D):Nat:=List.rec (motive:=fun _=>Nat) 0 (fun _ _ ih=>Nat.succ ih) l
theorem qqk : ∀ l:List D,qyS l=l.length
 |[]=>rfl
 |_::l=>by show Nat.succ (qyS l)=_; rw[qqk l]; rfl
noncomputable def qyi(r:List V)(σ : S)(v:Int):Option Res:=match r with
 |[]=>some (.ret (.dat (.lit (.int .i64 v))) σ)
 |_=>none
noncomputable def qwH(r:List V)(cs:List V)(n i:Nat)(v:Int):Option Res:=match r with
 |[.dat (.lit (.int .i64 w))]=>qyh (.dat (.lit (.int .i64 w))) cs i fun cs'=>cond (qr6 cs') (some (.ret (.tup []) [.cells [.msl 1 0 n n 1,.gsl [.lit (.int .i64 (.ofNat i)),.lit (.int .i64 v)] 1 2 2,.dat (.lit (.int .i64 (.ofNat 0)))],.cells cs',.tip 2])) none
 |_=>none
noncomputable def qwI(r:List V)(cs:List V)(n i:Nat)(v:Int)(lg:List D)(k:Nat):Option Res:=match r with
 |[.dat (.lit (.int .i64 w))]=>qyh (.dat (.lit (.int .i64 w))) cs i fun cs'=>apD [.lit (.int .i64 (.ofNat i)),.lit (.int .i64 v)] lg fun lg'=>qtl (k+1) fun k'=>qtl ((k+1)*2) fun t'=>cond (qr6 cs') (some (.ret (.tup []) [.cells [.msl 1 0 n n 1,.gsl lg' k' 2 2,.dat (.lit (.int .i64 (.ofNat 0)))],.cells cs',.tip t'])) none
 |_=>none
noncomputable def qzm(set:Bool)(r:List V)(σ : S)(x:V)(τ : S)(cs:List V)(n i:Nat)(v:Int):Option Res:=match x,τ with
 |.dat (.lit (.slice none l c)),[]=>cond (Nat.beq l 0&&Nat.beq c 0) (cond set (qwH r cs n i v) (qyi r σ v)) none
 |.gsl lg k s l,[.tip t]=>cond (Nat.beq s 2&&Nat.beq l 2) (cond set (cond (Nat.beq t (k*2)&&(Nat.beq (qyS lg) (k*2)&&Nat.ble k 1000000)) (qwI r cs n i v lg k) none) (qyi r σ v)) none
 |_,_=>none
noncomputable def qvq(set:Bool)(args:List V)(σ : S):Option Res:=match args with
 |.ptr a b :: .dat (.lit (.int .i64 (.ofNat i)))::r=>match σ with
  |.cells [.msl p q n m s,x,.dat (.lit (.int .i64 (.ofNat z)))] :: .cells cs :: τ=>
   cond (Nat.beq a 0&&(Nat.beq b 0&&(Nat.beq p 1&&(Nat.beq q 0&&(Nat.beq n m&&(Nat.beq s 1&&(Nat.beq z 0&&(Nat.blt i n&&qr6 cs))))))))
    (match qyR cs i with
     |some (.dat (.lit (.int .i64 v)))=>qzm set r σ x τ cs n i v
     |_=>none) none
  |_=>none
 |_=>none
theorem qdU{b:Bool}{x:Option Res}{r:Res}(h:cond b x none=some r):b=true/\x=some r:=by cases b; cases h; exact⟨rfl,h⟩
theorem qsZ{set:Bool}{args:List V}{σ : S}{r:Res}(h:qvq set args σ = some r):Z prX (.call (if set then 114 else 51) args σ)=some r:=by
 unfold qvq at h
 split at h
 ·rename_i a b i rest
  split at h
  ·rename_i p q n m s x z cs τ
   obtain⟨h1,h2⟩:=qdU h
   simp only[Wh] at h1
   obtain⟨e1,e2,e3,e4,e5,e6,e7,e8,e9⟩:=h1
   obtain rfl:=Nat.eq_of_beq_eq_true e1
   obtain rfl:=Nat.eq_of_beq_eq_true e2
   obtain rfl:=Nat.eq_of_beq_eq_true e3
   obtain rfl:=Nat.eq_of_beq_eq_true e4
   obtain rfl:=Nat.eq_of_beq_eq_true e5
   obtain rfl:=Nat.eq_of_beq_eq_true e6
   obtain rfl:=Nat.eq_of_beq_eq_true e7
   have hi:i<n:=by simpa using e8
   have hd:=qhl e9
   split at h2
   ·rename_i v hv
    obtain⟨hl,hc⟩:=qqj hv
    unfold qzm at h2
    split at h2
    ·obtain⟨f1,f2⟩:=qdU h2
     simp only[Wh] at f1
     obtain rfl:=Nat.eq_of_beq_eq_true f1.1
     obtain rfl:=Nat.eq_of_beq_eq_true f1.2
     cases set with
     |false=>
      simp only[cond_false,qyi] at f2
      split at f2
      ·cases f2; exact qwD hd hi hc
      ·cases f2
     |true=>
      simp only[cond_true,qwH] at f2
      split at f2
      ·rw[qmF _ _ _ _ hl] at f2
       obtain⟨g1,g2⟩:=qdU f2
       cases g2
       exact qwF hd (qhl g1) hi hl hc
      ·cases f2
    ·obtain⟨f1,f2⟩:=qdU h2
     simp only[Wh] at f1
     obtain rfl:=Nat.eq_of_beq_eq_true f1.1
     obtain rfl:=Nat.eq_of_beq_eq_true f1.2
     cases set with
     |false=>
      simp only[cond_false,qyi] at f2
      split at f2
      ·cases f2; exact qwE hd hi hc
      ·cases f2
     |true=>
      simp only[cond_true] at f2
      obtain⟨j1,j2⟩:=qdU f2
      simp only[Wh] at j1
      obtain rfl:=Nat.eq_of_beq_eq_true j1.1
      have j3:=Nat.eq_of_beq_eq_true j1.2.1
      have j4:=Nat.le_of_ble_eq_true j1.2.2
      rw[qqk] at j3
      simp only[qwI] at j2
      split at j2
      ·rw[qmF _ _ _ _ hl,qsY,qhw,qhw] at j2
       obtain⟨g1,g2⟩:=qdU j2
       cases g2
       exact qwG hd (qhl g1) hi hl j3 (by omega) hc
      ·cases j2
    ·cases h2
   ·cases h2
  ·cases h
 ·cases h
noncomputable def scL(L:List Kn)(t:Task):Option Res:=Task.rec (motive:=fun _=>Option Res)
 (fun f args σ => cond (Nat.beq f 51) (qvq false args σ) (cond (Nat.beq f 114) (qvq true args σ) (qmP f args σ L))) (fun _ _ _=>none) (fun _ _ _ _=>none) (fun _ _=>none) t
theorem qr7{L:List Kn}(hL : ∀ k∈L,k.ok prX):Le (scL L) (Z prX):=fun t r h=>by
 cases t with
 |call f args σ=>
  have h':cond (Nat.beq f 51) (qvq false args σ) (cond (Nat.beq f 114) (qvq true args σ) (qmP f args σ L))=some r:=h
  cases h1:Nat.beq f 51 with
  |true=>rw[h1] at h'; rw[Nat.eq_of_beq_eq_true h1]; exact qsZ (set:=false) h'
  |false=>
   cases h2:Nat.beq f 114 with
   |true=>rw[h1,h2] at h'; rw[Nat.eq_of_beq_eq_true h2]; exact qsZ (set:=true) h'
   |false=>rw[h1,h2] at h'; exact qqJ prX hL h'
 |dcall f args σ => cases h
 |loop k b fr σ => cases h
 |round args σ => cases h
theorem qyT{L:List Kn}(hL : ∀ k∈L,k.ok prX){f:Nat}{args:List V}{σ : S}{v:V}{τ : S}(n:Nat)(h:qkf prX (scL L) n (.call f args σ)=some (.ret v τ)):(⟨f,args,σ,v,τ⟩:Kn).ok prX:=
 qin prX (qr7 hL) n _ _ h
abbrev vi(n:Int):V := .dat (.lit (.int .i64 n))
abbrev di(n:Int):D := .lit (.int .i64 n)
def vs(l:List Int):List V:=l.map vi
def ds(l:List Int):List D:=l.map di
theorem qaK{L:List Kn}(hL : ∀ k∈L,k.ok prX){f:Nat}{args:List V}{σ : S}{v:V}{τ : S}(n:Nat)(h:(fVs args fun a=>fS σ fun s=>qkf prX (scL L) n (.call f a s))=some (.ret v τ)):(⟨f,args,σ,v,τ⟩:Kn).ok prX:=by
 rw[qcN,qrV] at h
 exact qyT hL n h
end
section
def ints(xs:List Int):List V:=xs.map fun n=>V.int n
@[simp] theorem quI(xs:List Int):(ints xs).length=xs.length:=by simp[ints]
@[simp] theorem qs0(xs:List Int):(intsC xs).length=xs.length:=by simp[intsC]
@[simp] theorem qct(xs:List Int):qau (ints xs)=[]:=by
 induction xs with
 |nil=>rfl
 |cons x xs ih=>simpa [ints] using ih
@[simp] theorem qde(r:Nat->Nat)(xs:List Int):qbl r (ints xs)=ints xs:=by
 induction xs with
 |nil=>rfl
 |cons x xs ih=>simpa [ints] using ih
@[simp] theorem quJ(xs:List Int):qaI (ints xs)=some (intsC xs):=by
 induction xs with
 |nil=>rfl
 |cons x xs ih=>
  have:qaI (ints (x::xs))=match qaI (ints xs) with
   |some ds=>some (.lit (.int .i64 x)::ds)
   |none=>none:=rfl
  rw[this,ih]; rfl
@[simp] theorem qsg(xs:List Int):(intsC xs).all (fun d=>V.one (.dat d))=true:=by
 simp[intsC,Value.oneCell']
@[simp] theorem qs1(xs:List Int):(ints xs).all V.one=true:=by
 simp[ints,Value.oneCell']
@[simp] theorem qsh(xs:List Int):(∀ x∈intsC xs,V.one (.dat x)=true):=by
 simp[intsC,Value.oneCell']
theorem qqs(xs:List Int)(n:Nat):(ints xs).drop n=ints (xs.drop n):=by simp[ints]
def getN(cs:List Int)(i:Nat):Int:=cs.getD i 0
def qy0(cs:List Int)(i:Int):Int:=getN cs i.toNat
def qzp(cs:List Int)(i v:Int):List Int:=cs.set i.toNat v
@[simp] theorem quK(cs:List Int)(i v:Int):(qzp cs i v).length=cs.length:=by simp[qzp]
theorem qqt(xs:List Int)(i:Int)(h:i.toNat<xs.length):qad (ints xs) i.toNat 1=some [V.int (qy0 xs i)]:=by
 have:xs.drop i.toNat=xs[i.toNat]::xs.drop (i.toNat+1):=W5 h
 simp only[qad,qqs,this,qy0,getN,Yl,Wy h]
 rfl
theorem qjk(xs:List Int)(i:Nat)(h:i<xs.length):qad (intsC xs) i 1=some [.lit (.int .i64 (getN xs i))]:=by
 rw[qhB xs i h]; simp[getN,Yl,h]
def around(n m:Int):Int:=(if n<0 then -(n+1) else n).tmod m
theorem qeV{n m:Int}(h1:I64 n)(hm:1<=m):0<=around n m/\around n m<m:=by
 unfold around
 split
 ·exact⟨Int.tmod_nonneg _ (by omega),Int.tmod_lt_of_pos _ (by omega)⟩
 ·exact⟨Int.tmod_nonneg _ (by omega),Int.tmod_lt_of_pos _ (by omega)⟩
theorem qka{n m:Int}(h0:0<=n)(hm:1<=m):0<=n.tmod m/\n.tmod m<m:=⟨Int.tmod_nonneg _ h0,Int.tmod_lt_of_pos _ (by omega)⟩
theorem qnw{n m:Int}(h0:0<=n)(hm:1<=m):0<=n.tdiv m/\n.tdiv m<=n:=by
 rw[Int.tdiv_eq_ediv_of_nonneg h0]
 refine⟨Int.ediv_nonneg h0 (by omega),Int.ediv_le_self _ h0⟩
structure IsRow(d:D)(xs:List Int):Prop where
 len : ∀ σ,V.len σ .sl (.dat d)=some xs.length
 at_ : ∀ i:Int,0<=i->i<xs.length->qai 1 (.dat d) i=some (.dat (.imm (intsC xs) i.toNat))
 one:V.one (.dat d)=true
 cells:V.cells (.dat d)=[.dat d]
theorem qsi(xs:List Int)(f:Bool):IsRow (.sl (intsC xs) xs.length f) xs where
 len:=fun _=>rfl
 at_:=fun i h0 h1=>by simp[qai,h0,h1]
 one:=rfl
 cells:=rfl
theorem qqu(o:Option Addr):IsRow (.lit (.slice o 0 0)) [] where
 len:=fun _=>rfl
 at_:=fun i h0 h1=>by simp at h1; omega
 one:=rfl
 cells:=rfl
theorem qlM(a b:List Int):intsC (a++b)=intsC a++intsC b:=by simp[intsC]
theorem qbv{xs:List Int}{i:Nat}(h:i<xs.length):getN xs i∈xs:=by
 simp[getN,Yl,h]
theorem qaB{prog:Nat->Option PFun}{k:Nat}{b:PC}{fr fr':Fr}{σ σ':S}(h:gcF k fr σ = gcF k fr' σ'):Z prog (.loop k b fr σ)=Z prog (.loop k b fr' σ'):=by
 rw[qap,qap,h]
theorem qby(xs:List Int)(i:Nat)(h:i<xs.length):qad (ints xs) i 1=some [V.int (getN xs i)]:=by
 have:=qqt xs (i:Int) (by simpa using h)
 simpa [qy0] using this
@[simp] theorem qy1:Fr.noD []=[]:=rfl
@[simp] theorem qyl(k:Nat)(v:V)(r:Fr):Fr.noD ((k,v)::r)=if k=1000000 then Fr.noD r else (k,v)::Fr.noD r:=by
 simp only[Fr.noD,Yy,dkey]
 by_cases h:k=1000000<;>simp[h]
end
section
open F
theorem qgg{α : Type}{n:Nat} : ∀ {l:List (List α)} {i:Nat} {x:List α},(∀ y∈l,y.length=n)->l[i]?=some x->qad l.flatten (i*n) n=some x
 |[],i,x,_,h=>by simp at h
 |y::l,0,x,hl,h=>by
  simp only[WT,Wd] at h
  subst h
  have e:=hl y (W7 ..)
  simp[qad,<- e]
 |y::l,i+1,x,hl,h=>by
  have e:=hl y (W7 ..)
  have ih:=qgg (n:=n) (l:=l) (i:=i) (x:=x) (fun z hz=>hl z (WH _ hz)) (by simpa using h)
  unfold qad at ih ⊢
  rw[WJ,show (i+1)*n=y.length+i*n by rw[e,Nat.succ_mul]; omega,<- List.drop_drop,List.drop_left]
  exact ih
theorem qbr{α : Type}{n:Nat} : ∀ {l:List (List α)},(∀ y∈l,y.length=n)->l.flatten.length=l.length*n
 |[],_=>by simp
 |y::l,h=>by
  rw[WJ,Wt,h y (W7 ..),qbr fun z hz=>h z (WH _ hz),WK,Nat.succ_mul]; omega
def shR(t q:Nat):Int:=if t=0 then 512*(1+q) else 0
def shP(t q:Nat)(f:Bool):D:=
 let r:Int:=512*(1+q)
 match t with
 |0 => .lit (.slice none 0 0)
 |1 => .sl ([-r,-r,r,-r,r,r,-r,r].map di) 4 f
 |2 => .sl ([-r,-r,r,-r,0,r].map di) 3 f
 |_ => .sl ([-2*r,-300,2*r,-300,2*r,300,-2*r,300].map di) 4 f
def shC(t q:Nat)(f:Bool):List D:=[di (shR t q),shP t q f]
noncomputable def qyk(r:Option Res):Bool:=match r with
 |some (.ret (.dat (.lit (.int .i64 (.ofNat 0)))) [])=>true
 |_=>false
theorem qqr{r:Option Res}(h:qyk r=true):r=some (.ret (.int 0) []):=by
 unfold qyk at h
 split at h
 ·rfl
 ·cases h
noncomputable def qwT:Bool:=(List.range 4).all fun t=>(List.range 5).all fun q=>qyk (qkf prX (scL []) 300 (.call 399 [.dat (.agg (shC t q true))] []))&&qyk (qkf prX (scL []) 300 (.call 399 [.dat (.agg (shC t q false))] []))
set_option maxRecDepth 100000 in
theorem qsf:qwT=true:=by kernel_rfl
theorem quH{t q:Nat}{f:Bool}(ht:t<4)(hq:q<5):Z prX (.call 399 [.dat (.agg (shC t q f))] [])=some (.ret (.int 0) []):=by
 have h:=qsf
 unfold qwT at h
 have h1:=Ws.1 (Ws.1 h t (by simpa using ht)) q (by simpa using hq)
 simp only[Wh] at h1
 refine qin prX (sc:=scL []) (qr7 fun k hk=>by cases hk) 300 _ _ ?_
 cases f with
 |true=>exact qqr h1.1
 |false=>exact qqr h1.2
structure Bod where
 t:Nat
 q:Nat
 px:Int
 py:Int
 vx:Int
 vy:Int
 im:Int
 a:Int
 b:Int
def Bod.c(x:Bod)(f:Bool):List D:=[di (shR x.t x.q),shP x.t x.q f,di x.px,di x.py,di x.vx,di x.vy,di x.im,di x.a,di x.b]
structure Bod.ok(x:Bod):Prop where
 t:x.t<4
 q:x.q<5
 px : -12000<=x.px/\x.px<=12000
 py : -9000<=x.py/\x.py<=9000
 vx : -16384<=x.vx/\x.vx<=16384
 vy : -16384<=x.vy/\x.vy<=16384
 im:0<=x.im/\x.im<=4096
 a : -2147483647<=x.a/\x.a<=2147483647
 b : -2147483647<=x.b/\x.b<=2147483647
structure Sup where
 n:Nat
 bs:List Bod
 dr:Nat
 fog:Int
 gy:Int
 push:Int
 drag:Int
 rest:Int
 rnd:Int
structure Sup.ok(s:Sup):Prop where
 n1:1<=s.n
 n3:s.n<=3
 b1:s.n<=s.bs.length
 b3:s.bs.length<=5
 bs : ∀ x∈s.bs,x.ok
 dr:s.dr<3
 fog:0<=s.fog/\s.fog<=4194304
 gy : -16384<=s.gy/\s.gy<=16384
 push:0<=s.push/\s.push<=16384
 drag:0<=s.drag/\s.drag<=1024
 rest:0<=s.rest/\s.rest<=1024
structure Flg where
 p:Bool
 b:Bool
 r:Bool
 d:Bool
def doorC(k:Nat):List D:=match k with
 |0=>[]
 |1=>[di 0,di 1]
 |_=>[di 0,di 2,di 1,di 2]
def doorN(k:Nat):Nat:=min k 2
def roomC:List D:=[-12000,-9000,-1,9000,0,0,12000,9000,0,-9000,12000,-1].map di
def qb6(bs:List Bod)(fp f:Bool):D := .sl (bs.map (Bod.c · fp)).flatten bs.length f
def Sup.c(s:Sup)(f:Flg):List D:=
 [di s.n,qb6 s.bs f.p f.b,di (-12000),di (-9000),di 12000,di 9000,.sl roomC 3 f.r,.sl (doorC s.dr) (doorN s.dr) f.d,di s.fog,di 0,di s.gy,di s.push,di s.drag,di s.rest,di s.rnd,di 20]
end
section
open F
set_option maxRecDepth 100000
attribute [local simp] V.len qai
theorem qs6 {lo hi:Int} {xs:List Int} (hn:xs.length<1000) (h : ∀ x∈xs,lo<=x/\x<=hi) : ∀ j k:Nat,k+j=xs.length ->
  Z prX (.loop 0 F457l0 [(0,.int lo),(1,.int hi),(9,.dat (.sl (intsC xs) xs.length true)),(10,.int xs.length),(11,.int k)] [])=some (.out (.exit 0) [(0,.int lo),(1,.int hi),(9,.dat (.sl (intsC xs) xs.length true)),(10,.int xs.length),(11,.int xs.length),(12,.bool false)] [])
 |0,k,e=>by
  obtain rfl:k=xs.length:=by omega
  rw[qap]
  simp[qao,qfa]
 |j+1,k,e=>by
  have ih:=qs6 hn h j (k+1) (by omega)
  have hk:k<xs.length:=by omega
  have c1:=qhB xs k hk
  have h1:=h xs[k] (Yr hk)
  have h2:(k:Int)<xs.length:=by omega
  have w1:IntKind.i64.wrap ((k:Int)+1)=((k+1:Nat):Int):=by rw[qay _ (by omega)]; omega
  generalize xs[k]=x at *
  have n1 : ¬ x<lo:=by omega
  have n2 : ¬ hi<x:=by omega
  generalize k+1=k' at *
  rw[qap]
  simp[qao,qfa,c1,h2,hk,w1,n1,n2,ih]
theorem qs7{lo hi:Int}{xs:List Int}(hn:xs.length<1000)(h : ∀ x∈xs,lo<=x/\x<=hi):Z prX (.call 457 [.int lo,.int hi,.dat (.sl (intsC xs) xs.length true)] [])=some (.ret (.bool true) []):=by
 have z:=qs6 hn h xs.length 0 (by omega)
 refine qaD (pf:=F457) rfl rfl ?_
 simp only[Int.ofNat_zero,WI] at z
 simp[F457,z]
theorem qkk{lo hi x:Int}(h:lo<=x/\x<=hi):Z prX (.call 457 [.int lo,.int hi,.dat (.sl [.lit (.int .i64 x)] 1 true)] [])=some (.ret (.bool true) []):=
 qs7 (xs:=[x]) (by simp) (by simpa using h)
theorem qmT{lo hi x y:Int}(h:lo<=x/\x<=hi)(k:lo<=y/\y<=hi):Z prX (.call 457 [.int lo,.int hi,.dat (.sl [.lit (.int .i64 x),.lit (.int .i64 y)] 2 true)] [])=some (.ret (.bool true) []):=
 qs7 (xs:=[x,y]) (by simp) (by simp; omega)
theorem qxm{lo hi x:Int}(h : ¬ (lo<=x/\x<=hi)):Z prX (.call 457 [.int lo,.int hi,.dat (.sl [.lit (.int .i64 x)] 1 true)] [])=some (.ret (.bool false) []):=by
 have z:Z prX (.loop 0 F457l0 [(0,.int lo),(1,.int hi),(9,.dat (.sl [.lit (.int .i64 x)] 1 true)),(10,.int 1),(11,.int 0)] [])=some (.out .ret [(6,.bool false)] []):=by
  rw[qap]
  by_cases h1:x<lo
  ·simp[qao,qfa,h1]
  ·have h2:hi<x:=by omega
   simp[qao,qfa,h1,h2]
 refine qaD (pf:=F457) rfl rfl ?_
 simp[F457,z]
theorem qgm {C:Task->Option Res} : ∀ {a b:List I} {fr:Fr} {σ : S},qbM C (a++b) fr σ = match qbM C a fr σ with
  |some (fr',σ')=>qbM C b fr' σ'
  |none=>none
 |[],b,fr,σ => rfl
 |i::a,b,fr,σ=>by
  simp only[Wu,qbM]
  cases qaQ fr i.guard with
  |none=>rfl
  |some g=>
   cases g with
   |false=>exact qgm
   |true=>
    cases qar C fr σ i.op with
    |none=>rfl
    |some p=>exact qgm
theorem chain {C:Task->Option Res} {a b:List I} {fr:Fr} {σ σ':S} {x y:Nat} {u v:V} (h:(qbM C a fr σ).map (fun p=>(p.1.get x,p.1.get y,p.2))=some (some u,some v,σ')) :
  ∃ fr',fr'.get x=some u/\fr'.get y=some v/\qbM C (a++b) fr σ = qbM C b fr' σ':=by
 rw[Wc] at h
 obtain⟨⟨fr',σ''⟩,h1,h2⟩:=h
 simp only[Wx] at h2
 obtain⟨h3,h4,rfl⟩:=h2
 exact⟨fr',h3,h4,by rw[qgm,h1]⟩
theorem qnR {C:Task->Option Res} {a b:List I} {fr:Fr} {σ σ':S} {ks:List Nat} {vs:List (Option V)} (h:(qbM C a fr σ).map (fun p=>(ks.map p.1.get,p.2))=some (vs,σ')) :
  ∃ fr',ks.map fr'.get=vs/\qbM C (a++b) fr σ = qbM C b fr' σ':=by
 rw[Wc] at h
 obtain⟨⟨fr',σ''⟩,h1,h2⟩:=h
 simp only[Wx] at h2
 obtain⟨h3,rfl⟩:=h2
 exact⟨fr',h3,by rw[qgm,h1]⟩
theorem qs8 {C:Task->Option Res} {a:List I} {fr:Fr} {σ σ':S} {y:Nat} {v:V} (h:(qbM C a fr σ).map (fun p=>(p.1.get y,p.2))=some (some v,σ')) :
  ∃ fr',fr'.get y=some v/\qbM C a fr σ = some (fr',σ'):=by
 rw[Wc] at h
 obtain⟨⟨fr',σ''⟩,h1,h2⟩:=h
 simp only[Wx] at h2
 obtain⟨h3,rfl⟩:=h2
 exact⟨fr',h3,h1⟩
def n400_0:List I:=[fa 3 0 1,l1 4 3,jj 5 (.bslice 1 [zN] [(0,1,(.t 4))]),jj 6 (.call 457 [(kk 1),(kk 8),(.t 5)]),mv 7 6]
def n400_1:List I:=[jt 8 7 (.fieldAddr 0 (.t 1)),jt 9 7 (.load false 1 (.t 8)),jt 10 7 (.fieldAddr 1 (.t 1)),jt 11 7 (.load false 1 (.t 10)),jt 12 7 (.len .sl (.t 11)),jt 13 7 (.bslice 1 [zN] [(0,1,(.t 12))]),jt 14 7 (.call 457 [(.t 9),(kk 24),(.t 13)]),jj 15 (.pick (.t 7) (.t 14) kF),mv 16 15]
def n400_2:List I:=[jt 17 16 (.fieldAddr 8 (.t 1)),jt 18 16 (.load false 1 (.t 17)),jt 19 16 (.bslice 1 [zN] [(0,1,(.t 18))]),jt 20 16 (.call 457 [(kk 0),(kk 4194304),(.t 19)]),jj 21 (.pick (.t 16) (.t 20) kF),mv 22 21]
def n400_3:List I:=[jt 23 22 (.fieldAddr 9 (.t 1)),jt 24 22 (.fieldAddr 0 (.t 23)),jt 25 22 (.load false 1 (.t 24)),jt 26 22 (.fieldAddr 9 (.t 1)),jt 27 22 (.fieldAddr 1 (.t 26)),jt 28 22 (.load false 1 (.t 27)),jt 29 22 (.bslice 2 [zN,zN] [(0,1,(.t 25)),(1,1,(.t 28))]),jt 30 22 (.call 457 [(kk (-16384)),(kk 16384),(.t 29)]),jj 31 (.pick (.t 22) (.t 30) kF),mv 32 31]
def n400_4:List I:=[jt 33 32 (.fieldAddr 11 (.t 1)),jt 34 32 (.load false 1 (.t 33)),jt 35 32 (.bslice 1 [zN] [(0,1,(.t 34))]),jt 36 32 (.call 457 [(kk 0),(kk 16384),(.t 35)]),jj 37 (.pick (.t 32) (.t 36) kF),mv 38 37]
def n400_5:List I:=[jt 39 38 (.fieldAddr 12 (.t 1)),jt 40 38 (.load false 1 (.t 39)),jt 41 38 (.fieldAddr 13 (.t 1)),jt 42 38 (.load false 1 (.t 41)),jt 43 38 (.bslice 2 [zN,zN] [(0,1,(.t 40)),(1,1,(.t 42))]),jt 44 38 (.call 457 [(kk 0),(kk 1024),(.t 43)]),jj 45 (.pick (.t 38) (.t 44) kF),mv 46 45]
def n400_6:List I:=[jt 47 46 (.fieldAddr 14 (.t 1)),jt 48 46 (.load false 1 (.t 47)),jt 49 46 (.bslice 1 [zN] [(0,1,(.t 48))]),jt 50 46 (.call 457 [(kk 1),(kk 4),(.t 49)]),jj 51 (.pick (.t 46) (.t 50) kF),mv 52 51]
def n400_7:List I:=[jt 53 52 (.fieldAddr 15 (.t 1)),jt 54 52 (.load false 1 (.t 53)),jt 55 52 (.bslice 1 [zN] [(0,1,(.t 54))]),jt 56 52 (.call 457 [(kk 0),(kk 1000),(.t 55)]),jj 57 (.pick (.t 52) (.t 56) kF),mv 2 57]
theorem F400_c:F400=⟨1,[.tmp 2],.seq (rn [bx 1 0,mx 2 kF] [1]) (.seq (rn (n400_0++(n400_1++(n400_2++(n400_3++(n400_4++(n400_5++(n400_6++(n400_7)))))))) [2]) (.ret)),false,false,false,false⟩:=rfl
theorem qq0{s:Sup}{f:Flg}(h:s.ok):Z prX (.call 400 [.dat (.agg (s.c f))] [])=some (.ret (.bool (decide (1<=s.rnd/\s.rnd<=4))) []):=by
 obtain⟨h1,h2,h3,h4,h5,h6,h7,h8,h9,h10,h11⟩:=h
 have a1:=qkk (lo:=1) (hi:=8) (x:=s.n) (by omega)
 have a2:=qkk (lo:=s.n) (hi:=24) (x:=s.bs.length) (by omega)
 have a3:=qkk h7
 have a4:=qmT (lo := -16384) (hi:=16384) (x:=0) (y:=s.gy) (by omega) h8
 have a5:=qkk h9
 have a6:=qmT h10 h11
 have a8:=qkk (lo:=0) (hi:=1000) (x:=20) (by omega)
 have a7:Z prX (.call 457 [.int 1,.int 4,.dat (.sl [.lit (.int .i64 s.rnd)] 1 true)] [])=some (.ret (.bool (decide (1<=s.rnd/\s.rnd<=4))) []):=by
  by_cases h:1<=s.rnd/\s.rnd<=4
  ·rw[qkk h]; simp[h]
  ·rw[qxm h]; simp only[h,decide_false]
 refine qaD (pf:=F400) rfl rfl ?_
 simp only[Sup.c,qb6,di]
 generalize (s.bs.map (Bod.c · f.p)).flatten=X
 generalize roomC=Y
 generalize doorC s.dr=W
 generalize doorN s.dr=dn
 generalize decide (1<=s.rnd/\s.rnd<=4)=b at *
 have key : ∀ (fr:Fr) (σ : S),σ = [.cells [.int s.n,.dat (.sl X s.bs.length f.b),.int (-12000),.int (-9000),.int 12000,.int 9000,.dat (.sl Y 3 f.r),.dat (.sl W dn f.d),.int s.fog,.int 0,.int s.gy,.int s.push,.int s.drag,.int s.rest,.int s.rnd,.int 20]]->fr.get 1=some (.ptr 0 0) ->
   ∃ fr',fr'.get 2=some (.bool b)/\qbM (Z prX) (n400_0++(n400_1++(n400_2++(n400_3++(n400_4++(n400_5++(n400_6++(n400_7)))))))) fr σ = some (fr',σ):=by
  intro fr σ hσ g0
  obtain⟨fr1,g1,k1,e1⟩:=chain (C:=Z prX) (a:=n400_0) (b:=n400_1++(n400_2++(n400_3++(n400_4++(n400_5++(n400_6++(n400_7))))))) (fr:=fr) (σ := σ) (x:=1) (y:=7) (u := .ptr 0 0) (v := .bool true) (σ' := σ) (by subst hσ; simp[n400_0,g0,a1])
  obtain⟨fr2,g2,k2,e2⟩:=chain (C:=Z prX) (a:=n400_1) (b:=n400_2++(n400_3++(n400_4++(n400_5++(n400_6++(n400_7)))))) (fr:=fr1) (σ := σ) (x:=1) (y:=16) (u := .ptr 0 0) (v := .bool true) (σ' := σ) (by subst hσ; simp[n400_1,g1,k1,a2])
  obtain⟨fr3,g3,k3,e3⟩:=chain (C:=Z prX) (a:=n400_2) (b:=n400_3++(n400_4++(n400_5++(n400_6++(n400_7))))) (fr:=fr2) (σ := σ) (x:=1) (y:=22) (u := .ptr 0 0) (v := .bool true) (σ' := σ) (by subst hσ; simp[n400_2,g2,k2,a3])
  obtain⟨fr4,g4,k4,e4⟩:=chain (C:=Z prX) (a:=n400_3) (b:=n400_4++(n400_5++(n400_6++(n400_7)))) (fr:=fr3) (σ := σ) (x:=1) (y:=32) (u := .ptr 0 0) (v := .bool true) (σ' := σ) (by subst hσ; simp[n400_3,g3,k3,a4])
  obtain⟨fr5,g5,k5,e5⟩:=chain (C:=Z prX) (a:=n400_4) (b:=n400_5++(n400_6++(n400_7))) (fr:=fr4) (σ := σ) (x:=1) (y:=38) (u := .ptr 0 0) (v := .bool true) (σ' := σ) (by subst hσ; simp[n400_4,g4,k4,a5])
  obtain⟨fr6,g6,k6,e6⟩:=chain (C:=Z prX) (a:=n400_5) (b:=n400_6++(n400_7)) (fr:=fr5) (σ := σ) (x:=1) (y:=46) (u := .ptr 0 0) (v := .bool true) (σ' := σ) (by subst hσ; simp[n400_5,g5,k5,a6])
  obtain⟨fr7,g7,k7,e7⟩:=chain (C:=Z prX) (a:=n400_6) (b:=n400_7) (fr:=fr6) (σ := σ) (x:=1) (y:=52) (u := .ptr 0 0) (v := .bool b) (σ' := σ) (by subst hσ; simp[n400_6,g6,k6,a7])
  rw[e1,e2,e3,e4,e5,e6,e7]
  refine qs8 ?_
  subst hσ
  cases b<;>simp[n400_7,g7,k7,a8]
 obtain⟨fr',q1,q2⟩:=key [(1,.ptr 0 0)] _ rfl rfl
 rw[F400_c]
 simp[q1,q2]
end
section
open F
set_option maxRecDepth 100000
attribute [local simp] V.len qai
noncomputable def isT(r:Option Res):Bool:=match r with
 |some (.ret (.dat (.lit (.bool true))) [])=>true
 |_=>false
theorem qnq{r:Option Res}(h:isT r=true):r=some (.ret (.bool true) []):=by
 unfold isT at h
 split at h
 ·rfl
 ·cases h
theorem byK{t:Task}{r:Res}(n:Nat)(h:qkf prX (scL []) n t=some r):Z prX t=some r:=qin prX (sc:=scL []) (qr7 fun k hk=>by cases hk) n _ _ h
abbrev qnr(a b c d:Int):V := .dat (.agg [di a,di b,di c,di d])
theorem qyV:Z prX (.call 401 [qnr (-12000) (-9000) 12000 9000] [])=some (.ret (.bool true) []):=byK 100 (qnq (by kernel_rfl))
theorem qyW:Z prX (.call 401 [qnr (-12000) (-9000) (-1) 9000] [])=some (.ret (.bool true) []):=byK 100 (qnq (by kernel_rfl))
theorem qyX:Z prX (.call 401 [qnr 0 0 12000 9000] [])=some (.ret (.bool true) []):=byK 100 (qnq (by kernel_rfl))
theorem qyY:Z prX (.call 401 [qnr 0 (-9000) 12000 (-1)] [])=some (.ret (.bool true) []):=byK 100 (qnq (by kernel_rfl))
section
variable{s:Sup}{f:Flg}
def quC(s:Sup)(f:Flg):S:=[.cells ((s.c f).map .dat)]
theorem quD:Z prX (.loop 0 F402l0 [(1,.ptr 0 0),(18,.dat (.sl roomC 3 f.r)),(19,.int 3),(20,.int 0)] (quC s f))=some (.out (.exit 0) [(1,.ptr 0 0),(18,.dat (.sl roomC 3 f.r)),(19,.int 3),(20,.int 3),(21,.bool false)] (quC s f)):=by
 have p1:=qyW
 have p2:=qyX
 have p3:=qyY
 unfold quC
 simp only[Sup.c,qb6,di,roomC,Wi,Wr] at *
 generalize (s.bs.map (Bod.c · f.p)).flatten=X
 generalize doorC s.dr=W
 generalize doorN s.dr=dn
 have w1:IntKind.i64.wrap 1=1:=rfl
 have w2:IntKind.i64.wrap 2=2:=rfl
 have w3:IntKind.i64.wrap 3=3:=rfl
 simp -implicitDefEqProofs [qap,qao,qop,p1,p2,p3,w1,w2,w3]
theorem quE(h:s.dr<3):Z prX (.loop 0 F402l1 [(1,.ptr 0 0),(29,.dat (.sl (doorC s.dr) (doorN s.dr) f.d)),(30,.int (doorN s.dr)),(31,.int 0)] (quC s f))=some (.out (.exit 2) [(1,.ptr 0 0),(29,.dat (.sl (doorC s.dr) (doorN s.dr) f.d)),(30,.int (doorN s.dr)),(31,.int (doorN s.dr)),(32,.bool false)] (quC s f)):=by
 have p1:=qmT (lo:=0) (hi:=2) (x:=0) (y:=1) (by omega) (by omega)
 have p2:=qmT (lo:=0) (hi:=2) (x:=0) (y:=2) (by omega) (by omega)
 have p3:=qmT (lo:=0) (hi:=2) (x:=1) (y:=2) (by omega) (by omega)
 have w1:IntKind.i64.wrap 1=1:=rfl
 have w2:IntKind.i64.wrap 2=2:=rfl
 have w3:IntKind.i64.wrap 3=3:=rfl
 unfold quC
 simp only[Sup.c,qb6,di,Wi,Wr] at *
 generalize (s.bs.map (Bod.c · f.p)).flatten=X
 generalize roomC=Y
 obtain h|h|h:s.dr=0\/s.dr=1\/s.dr=2:=by omega
 ·rw[h]; simp -implicitDefEqProofs [doorC,doorN,qap,qao,qgE,p1,p2,p3,w1,w2,w3]
 ·rw[h]; simp -implicitDefEqProofs [doorC,doorN,qap,qao,qgE,p1,p2,p3,w1,w2,w3]
 ·rw[h]; simp -implicitDefEqProofs [doorC,doorN,qap,qao,qgE,p1,p2,p3,w1,w2,w3]
theorem qyZ(h:s.dr<3):Z prX (.call 402 [.dat (.agg (s.c f))] [])=some (.ret (.bool true) []):=by
 have l0:=quD (s:=s) (f:=f)
 have l1:=quE (f:=f) h
 have e:(doorN s.dr:Int)<=2:=by unfold doorN; omega
 unfold quC at l0 l1
 simp only[Sup.c,qb6,di,Wi,Wr] at *
 generalize (s.bs.map (Bod.c · f.p)).flatten=X at *
 generalize roomC=Y at *
 generalize doorC s.dr=W at *
 generalize doorN s.dr=dn at *
 have n1 : ¬ (16:Int)<dn:=by omega
 refine qaD (pf:=F402) rfl rfl ?_
 simp -implicitDefEqProofs [F402,l0,l1,n1]
end
end
section
open F
set_option maxRecDepth 100000
attribute [local simp] V.len qai
def n403_0:List I:=[fa 8 4 5,l1 9 8,jj 10 (.bslice 1 [zN] [(0,1,(.t 9))]),jj 11 (.call 457 [(kk 0),(kk 4096),(.t 10)]),mv 12 11]
def n403_1:List I:=[jt 13 12 (.fieldAddr 2 (.t 5)),jt 14 12 (.fieldAddr 0 (.t 13)),jt 15 12 (.load false 1 (.t 14)),jt 16 12 (.fieldAddr 2 (.t 5)),jt 17 12 (.fieldAddr 1 (.t 16)),jt 18 12 (.load false 1 (.t 17)),jt 19 12 (.bslice 2 [zN,zN] [(0,1,(.t 15)),(1,1,(.t 18))]),jt 20 12 (.call 457 [(kk (-16384)),(kk 16384),(.t 19)]),jj 21 (.pick (.t 12) (.t 20) kF),mv 22 21]
def n403_2:List I:=[jt 23 22 (.fieldAddr 0 (.t 3)),jt 24 22 (.load false 1 (.t 23)),jt 25 22 (.fieldAddr 2 (.t 3)),jt 26 22 (.load false 1 (.t 25)),jt 27 22 (.fieldAddr 0 (.t 5)),jt 28 22 (.fieldAddr 0 (.t 27)),jt 29 22 (.load false 1 (.t 28)),jt 30 22 (.bslice 1 [zN] [(0,1,(.t 29))]),jt 31 22 (.call 457 [(.t 24),(.t 26),(.t 30)]),jj 32 (.pick (.t 22) (.t 31) kF),mv 33 32]
def n403_3:List I:=[jt 34 33 (.fieldAddr 1 (.t 3)),jt 35 33 (.load false 1 (.t 34)),jt 36 33 (.fieldAddr 3 (.t 3)),jt 37 33 (.load false 1 (.t 36)),jt 38 33 (.fieldAddr 0 (.t 5)),jt 39 33 (.fieldAddr 1 (.t 38)),jt 40 33 (.load false 1 (.t 39)),jt 41 33 (.bslice 1 [zN] [(0,1,(.t 40))]),jt 42 33 (.call 457 [(.t 35),(.t 37),(.t 41)]),jj 43 (.pick (.t 33) (.t 42) kF),mv 44 43]
def n403_4:List I:=[jt 45 44 (.fieldAddr 7 (.t 2)),jt 46 44 (.load false 1 (.t 45)),jt 47 44 (.fieldAddr 8 (.t 2)),jt 48 44 (.load false 1 (.t 47)),jt 49 44 (.bslice 2 [zN,zN] [(0,1,(.t 46)),(1,1,(.t 48))]),jt 50 44 (.call 457 [(kk (-2147483647)),(kk 2147483647),(.t 49)]),jj 51 (.pick (.t 44) (.t 50) kF),mv 4 51]
theorem F403_c:F403=⟨2,[.tmp 4],.seq (rn [bx 2 0,bx 3 1,mx 4 kF] [2,3]) (.seq (rn [fa 6 2 2,la 7 5 6,jj 5 (.alloc [zN,zN,zN,zN,zN]),st 5 5 7] [2,3,5]) (.seq (rn (n403_0++(n403_1++(n403_2++(n403_3++(n403_4))))) [4]) (.ret))),false,false,false,false⟩:=rfl
theorem qw4{x:Bod}{f:Bool}(h:x.ok):Z prX (.call 403 [.dat (.agg (x.c f)),qnr (-12000) (-9000) 12000 9000] [])=some (.ret (.bool true) []):=by
 obtain⟨h1,h2,h3,h4,h5,h6,h7,h8,h9⟩:=h
 have a1:=qkk h7
 have a2:=qmT h5 h6
 have a3:=qkk h3
 have a4:=qkk h4
 have a5:=qmT h8 h9
 refine qaD (pf:=F403) rfl rfl ?_
 have hp:(V.dat (shP x.t x.q f)).one=true:=by unfold shP; split<;>rfl
 simp only[Bod.c,di]
 generalize shR x.t x.q=R at *
 generalize shP x.t x.q f=P at *
 have key : ∀ (fr:Fr) (σ : S),σ = [.cells [.int R,.dat P,.int x.px,.int x.py,.int x.vx,.int x.vy,.int x.im,.int x.a,.int x.b],.cells [.int (-12000),.int (-9000),.int 12000,.int 9000],.cells [.int x.px,.int x.py,.int x.vx,.int x.vy,.int x.im]]->fr.get 2=some (.ptr 0 0)/\fr.get 3=some (.ptr 1 0)/\fr.get 5=some (.ptr 2 0) ->
   ∃ fr',fr'.get 4=some (.bool true)/\qbM (Z prX) (n403_0++(n403_1++(n403_2++(n403_3++(n403_4))))) fr σ = some (fr',σ):=by
  intro fr σ hσ g0
  obtain⟨fr1,g1,e1⟩:=qnR (C:=Z prX) (a:=n403_0) (b:=n403_1++(n403_2++(n403_3++(n403_4)))) (fr:=fr) (σ := σ) (ks:=[2,3,5,12]) (vs:=[some (.ptr 0 0),some (.ptr 1 0),some (.ptr 2 0),some (.bool true)]) (σ' := σ) (by subst hσ; simp[n403_0,g0,a1])
  simp only[Wi,Wr,Yh,and_true] at g1
  obtain⟨fr2,g2,e2⟩:=qnR (C:=Z prX) (a:=n403_1) (b:=n403_2++(n403_3++(n403_4))) (fr:=fr1) (σ := σ) (ks:=[2,3,5,22]) (vs:=[some (.ptr 0 0),some (.ptr 1 0),some (.ptr 2 0),some (.bool true)]) (σ' := σ) (by subst hσ; simp[n403_1,g1,a2])
  simp only[Wi,Wr,Yh,and_true] at g2
  obtain⟨fr3,g3,e3⟩:=qnR (C:=Z prX) (a:=n403_2) (b:=n403_3++(n403_4)) (fr:=fr2) (σ := σ) (ks:=[2,3,5,33]) (vs:=[some (.ptr 0 0),some (.ptr 1 0),some (.ptr 2 0),some (.bool true)]) (σ' := σ) (by subst hσ; simp[n403_2,g2,a3])
  simp only[Wi,Wr,Yh,and_true] at g3
  obtain⟨fr4,g4,e4⟩:=qnR (C:=Z prX) (a:=n403_3) (b:=n403_4) (fr:=fr3) (σ := σ) (ks:=[2,3,5,44]) (vs:=[some (.ptr 0 0),some (.ptr 1 0),some (.ptr 2 0),some (.bool true)]) (σ' := σ) (by subst hσ; simp[n403_3,g3,a4])
  simp only[Wi,Wr,Yh,and_true] at g4
  rw[e1,e2,e3,e4]
  refine qs8 ?_
  subst hσ
  simp[n403_4,g4,a5,hp]
 obtain⟨fr',q1,q2⟩:=key [(2,.ptr 0 0),(3,.ptr 1 0),(5,.ptr 2 0)] _ rfl ⟨rfl,rfl,rfl⟩
 rw[F403_c]
 simp[q1,q2,hp]
end
section
open F
set_option maxRecDepth 100000
attribute [local simp] V.len qai
theorem qgj{bs:List Bod}{f:Bool}{k:Nat}{x:Bod}(h:bs[k]?=some x):qad (bs.map (Bod.c · f)).flatten (k*9) 9=some (x.c f):=
 qgg (by simp; intro y _; rfl) (by simp[h])
theorem qsp{bs:List Bod}{f:Bool}:(bs.map (Bod.c · f)).flatten.length=bs.length*9:=by
 rw[qbr (n:=9) (by simp; intro y _; rfl),Wf]
theorem qdx(t q:Nat)(f:Bool):(V.dat (shP t q f)).one=true:=by unfold shP; split<;>rfl
theorem qas : ∀ c:List D,Dats (c.map .dat)
 |[]=>⟨rfl,fun _=>rfl⟩
 |d::c=>⟨by simp[qau,(qas c).l],fun f=>by simp[qbl,(qas c).r f]⟩
section
variable{bs:List Bod}{fp fb:Bool}{σ : S}
theorem qnJ (hb : ∀ x∈bs,x.ok) (hl:bs.length<=5) {cs:List V} (hd:Dats cs) (hc : σ = [.cells cs]) : ∀ j k:Nat,k+j=bs.length ->
  Z prX (.loop 0 F372l0 [(1,.ptr 0 0),(8,.dat (qb6 bs fp fb)),(9,.int bs.length),(10,.int k)] σ)=some (.out (.exit 0) [(1,.ptr 0 0),(8,.dat (qb6 bs fp fb)),(9,.int bs.length),(10,.int bs.length),(11,.bool false)] σ)
 |0,k,e=>by
  obtain rfl:k=bs.length:=by omega
  subst hc
  rw[qap]
  simp[qao,qiW,qb6,hd.l,hd.r,Wa]
 |j+1,k,e=>by
  have ih:=qnJ hb hl hd hc j (k+1) (by omega)
  have hk:k<bs.length:=by omega
  obtain⟨x,hx⟩ : ∃ x,bs[k]?=some x:=⟨bs[k],by simp[hk]⟩
  have hxo:=hb x (Wv hx)
  have z:=quH (f:=fp) hxo.t hxo.q
  have c1:=qgj (f:=fp) hx
  have c2:=qdx x.t x.q fp
  have h2:(k:Int)<bs.length:=by omega
  have w1:IntKind.i64.wrap ((k:Int)+1)=((k+1:Nat):Int):=by rw[qay _ (by omega)]; omega
  subst hc
  simp only[qb6] at *
  generalize (bs.map (Bod.c · fp)).flatten=X at *
  simp only[Bod.c,shC,di] at *
  generalize bs.length=n at *
  generalize shR x.t x.q=R at *
  generalize shP x.t x.q fp=P at *
  generalize k+1=k' at *
  rw[<- ih]
  conv=>lhs; rw[qap]
  simp -implicitDefEqProofs [qao,qiW,hd.l,hd.r,Wa,h2,hk,c1,c2,z,w1]
  exact qaB (by simp[hd.l,hd.r,Wa])
theorem qnK (hb : ∀ x∈bs,x.ok) (hl:bs.length<=5) {r0:V} {cs:List V} (hr:r0.one=true) (hd:Dats (r0::V.dat (qb6 bs fp fb) :: .int (-12000) :: .int (-9000) :: .int 12000 :: .int 9000::cs)) (hc : σ = [.cells (r0::V.dat (qb6 bs fp fb) :: .int (-12000) :: .int (-9000) :: .int 12000 :: .int 9000::cs)]) : ∀ j k:Nat,k+j=bs.length ->
  Z prX (.loop 0 F372l1 [(1,.ptr 0 0),(34,.dat (qb6 bs fp fb)),(35,.int bs.length),(36,.int k)] σ)=some (.out (.exit 2) [(1,.ptr 0 0),(34,.dat (qb6 bs fp fb)),(35,.int bs.length),(36,.int bs.length),(37,.bool false)] σ)
 |0,k,e=>by
  obtain rfl:k=bs.length:=by omega
  subst hc
  have hL:=hd.l
  have hR:=hd.r
  generalize (r0::V.dat (qb6 bs fp fb) :: .int (-12000) :: .int (-9000) :: .int 12000 :: .int 9000::cs)=C at *
  rw[qap]
  simp[qao,qiX,qb6,hL,hR,Wa]
 |j+1,k,e=>by
  have ih:=qnK hb hl hr hd hc j (k+1) (by omega)
  have hk:k<bs.length:=by omega
  obtain⟨x,hx⟩ : ∃ x,bs[k]?=some x:=⟨bs[k],by simp[hk]⟩
  have hxo:=hb x (Wv hx)
  have z:=qw4 (f:=fp) hxo
  have c1:=qgj (f:=fp) hx
  have c2:=qdx x.t x.q fp
  have h2:(k:Int)<bs.length:=by omega
  have w1:IntKind.i64.wrap ((k:Int)+1)=((k+1:Nat):Int):=by rw[qay _ (by omega)]; omega
  subst hc
  have hL:=hd.l
  have hR:=hd.r
  simp only[qb6] at *
  generalize (bs.map (Bod.c · fp)).flatten=X at *
  simp only[Bod.c,shC,di,qnr] at *
  generalize bs.length=n at *
  generalize shR x.t x.q=R at *
  generalize shP x.t x.q fp=P at *
  generalize k+1=k' at *
  have d1:qad (r0::V.dat (.sl X n fb) :: .int (-12000) :: .int (-9000) :: .int 12000 :: .int 9000::cs) 2 4=some [.int (-12000),.int (-9000),.int 12000,.int 9000]:=by simp
  rw[<- ih]
  generalize (r0::V.dat (.sl X n fb) :: .int (-12000) :: .int (-9000) :: .int 12000 :: .int 9000::cs)=C at *
  conv=>lhs; rw[qap]
  simp -implicitDefEqProofs [qao,qiX,hL,hR,Wa,h2,hk,c1,c2,d1,z,w1]
  exact qaB (by simp[hL,hR,Wa])
end
def qsq(n:Int):Int:=if 1<=n/\n<=4 then 0 else 11
theorem qfg{s:Sup}{f:Flg}(h:s.ok):Z prX (.call 372 [.dat (.agg (s.c f))] [])=some (.ret (.int (qsq s.rnd)) []):=by
 have a1:=qq0 (f:=f) h
 have a2:=qyV
 have a3:=qyZ (f:=f) h.dr
 have hd:=qas (s.c f)
 have l0:=qnJ (fp:=f.p) (fb:=f.b) h.bs h.b3 hd rfl s.bs.length 0 (by omega)
 have l1:=qnK (fp:=f.p) (fb:=f.b) h.bs h.b3 (r0 := .int s.n) (cs:=[.dat (.sl roomC 3 f.r),.dat (.sl (doorC s.dr) (doorN s.dr) f.d),.int s.fog,.int 0,.int s.gy,.int s.push,.int s.drag,.int s.rest,.int s.rnd,.int 20]) rfl hd rfl s.bs.length 0 (by omega)
 unfold qsq
 simp only[Sup.c,qb6,di,qnr,Wi,Wr] at *
 generalize (s.bs.map (Bod.c · f.p)).flatten=X at *
 generalize roomC=Y at *
 generalize doorC s.dr=W at *
 generalize doorN s.dr=dn at *
 generalize s.bs.length=n at *
 simp only[WI,Int.ofNat_zero] at l0 l1
 by_cases hr:1<=s.rnd/\s.rnd<=4
 ·rw[if_pos hr]
  simp only[hr,decide_true] at a1
  refine qaD (pf:=F372) rfl rfl ?_
  simp -implicitDefEqProofs [F372,a1,a2,a3,l0,l1]
 ·rw[if_neg hr]
  simp only[hr,decide_false] at a1
  refine qaD (pf:=F372) rfl rfl ?_
  simp -implicitDefEqProofs [F372,a1,a2,a3,l0,l1]
end
section
open F
set_option maxRecDepth 100000
attribute [local simp] V.len qai
def clF(sz b:Nat):PFun:=⟨1,[.tmp 2],.seq (rn [jj 2 (.mov (.c (.slice none 0 0)))] [0]) (.seq (.seq (rn [mv 3 0,jj 4 (.isnils false (.t 3))] [0,4]) (.cond (.t 4) (.seq (rn [jj 2 (.mov (.c (.slice none 0 0)))] [2]) (.ret)) (.skip))) (.seq (rn [jj 5 (.bslice 0 [] []),mv 6 0,jj 7 (.append sz b (.t 5) (.t 6)),mv 2 7] [2]) (.ret))),false,false,false,false⟩
section
variable{k sz b n:Nat}{cs:List D}{f:Bool}
theorem qej(hk:prX k=some (clF sz b))(hs:0<sz)(hn:0<n)(hl:cs.length=n*sz)(hr:qaA n b=true):Z prX (.call k [.dat (.sl cs n f)] [])=some (.ret (.dat (.sl cs n false)) []):=by
 refine qaD hk rfl ?_
 have h0 : ¬ n=0:=by omega
 simp[clF,qrG,qbs,qlj,hl,hs,h0,hr,Wa]
theorem qnv(hk:prX k=some (clF sz b))(hs:0<sz):Z prX (.call k [.dat (.sl [] 0 f)] [])=some (.ret (.dat (.sl [] 0 true)) []):=by
 refine qaD hk rfl ?_
 simp[clF,qrG,qbs,qlj,hs,Wa]
theorem qlL(hk:prX k=some (clF sz b)):Z prX (.call k [.dat (.lit (.slice none 0 0))] [])=some (.ret (.dat (.lit (.slice none 0 0))) []):=by
 refine qaD hk rfl ?_
 simp[clF,qrG]
end
end
section
open F
set_option maxRecDepth 100000
attribute [local simp] V.len qai
theorem qs3{t q:Nat}{f:Bool}:Z prX (.call 408 [.dat (shP t q f)] [])=some (.ret (.dat (shP t q false)) []):=by
 unfold shP
 split
 ·exact qlL (sz:=2) (b:=16) rfl
 ·exact qej (sz:=2) (b:=16) rfl (by omega) (by omega) rfl rfl
 ·exact qej (sz:=2) (b:=16) rfl (by omega) (by omega) rfl rfl
 ·exact qej (sz:=2) (b:=16) rfl (by omega) (by omega) rfl rfl
theorem qis(t q:Nat)(f:Bool):(V.dat (shP t q f)).cells=[.dat (shP t q f)]:=by unfold shP; split<;>rfl
def vecAt(bs:List Bod)(fp:Bool)(k:Nat):List V:=(((bs.take k).map (Bod.c · false)).flatten++((bs.drop k).map (Bod.c · fp)).flatten).map .dat
theorem qem(bs:List Bod)(f:Bool):((bs.map (Bod.c · f)).flatten).length=bs.length*9:=qsp
theorem qlU{bs:List Bod}{fp:Bool}{k:Nat}(hk:k<=bs.length):(vecAt bs fp k).length=bs.length*9:=by
 simp only[vecAt,Wf,Wt,qem,WR,Yf]
 omega
theorem qjw {bs:List Bod} {fp:Bool} {k:Nat} {x:Bod} (hx:bs[k]?=some x) :
  qad (vecAt bs fp k) (k*9+1) 1=some [.dat (shP x.t x.q fp)]/\(vecAt bs fp k).take (k*9+1)++(V.dat (shP x.t x.q false)::(vecAt bs fp k).drop (k*9+1+1))=vecAt bs fp (k+1):=by
 have hk:k<bs.length:=(Wb.1 hx).1
 have ed:bs.drop k=x::bs.drop (k+1):=by
  rw[W5 hk]
  congr 1
  have:=Wb.1 hx
  exact this.2
 have et:bs.take (k+1)=bs.take k++[x]:=by
  rw[List.take_add_one,hx]; rfl
 have hl:(((bs.take k).map (Bod.c · false)).flatten.map V.dat).length=k*9:=by
  rw[Wf,qem,WR]; congr 1; omega
 have e1:vecAt bs fp k=((bs.take k).map (Bod.c · false)).flatten.map V.dat++((x.c fp).map V.dat++(((bs.drop (k+1)).map (Bod.c · fp)).flatten).map V.dat):=by
  simp only[vecAt,ed,Wi,WJ,List.map_append]
 have e2:vecAt bs fp (k+1)=((bs.take k).map (Bod.c · false)).flatten.map V.dat++((x.c false).map V.dat++(((bs.drop (k+1)).map (Bod.c · fp)).flatten).map V.dat):=by
  simp only[vecAt,et,List.map_append,List.flatten_append,Wi,Wr,WJ,List.flatten_nil,Wp,WA]
 rw[e1,e2]
 generalize ((bs.take k).map (Bod.c · false)).flatten.map V.dat=A at *
 generalize (((bs.drop (k+1)).map (Bod.c · fp)).flatten).map V.dat=B at *
 constructor
 ·unfold qad
  rw[<- hl,<- List.drop_drop,List.drop_left]
  simp[Bod.c]
 ·rw[<- hl,List.take_append,Wl (by omega),show A.length+1+1=A.length+2 from rfl,<- List.drop_drop,List.drop_left,WA]
  simp[Bod.c]
theorem qcc(bs:List Bod)(fp:Bool)(k:Nat):Dats (vecAt bs fp k):=qas _
theorem qqR(bs:List Bod)(fp:Bool):vecAt bs fp 0=((bs.map (Bod.c · fp)).flatten).map .dat:=by simp[vecAt]
theorem qqS(bs:List Bod)(fp:Bool):vecAt bs fp bs.length=((bs.map (Bod.c · false)).flatten).map .dat:=by simp[vecAt]
abbrev qax:V := .dat (.lit (.slice none 0 0))
def gS(s:Sup)(f:Flg)(k:Nat):S:=
 [.cells [.int s.n,.own 2 s.bs.length 9,.int (-12000),.int (-9000),.int 12000,.int 9000,.dat (.sl roomC 3 f.r),.dat (.sl (doorC s.dr) (doorN s.dr) f.d),.int s.fog,.int 0,.int s.gy,.int s.push,.int s.drag,.int s.rest,.int s.rnd,.int 20],
  .cells [.int 0,qax,.int 0,.int 0,.int 0,.int 0,qax,qax,.int 0,.int 0,.int 0,.int 0,.int 0,.int 0,.int 0,.int 0],.vec (vecAt s.bs f.p k)]
theorem qnP {s:Sup} {f:Flg} (hl:s.bs.length<=5) : ∀ j k:Nat,k+j=s.bs.length ->
  Z prX (.loop 0 F463l0 [(1,.ptr 0 0),(2,.ptr 1 0),(10,.int s.bs.length),(11,.int k)] (gS s f k))=some (.out (.exit 0) [(1,.ptr 0 0),(2,.ptr 1 0),(10,.int s.bs.length),(11,.int s.bs.length),(12,.bool false)] (gS s f s.bs.length))
 |0,k,e=>by
  obtain rfl:k=s.bs.length:=by omega
  have hd:=qcc s.bs f.p s.bs.length
  simp only[gS]
  generalize vecAt s.bs f.p s.bs.length=X at *
  rw[qap]
  simp[qao,qiZ,hd.l,hd.r,Wa]
 |j+1,k,e=>by
  have ih:=qnP (f:=f) hl j (k+1) (by omega)
  have hk:k<s.bs.length:=by omega
  obtain⟨x,hx⟩ : ∃ x,s.bs[k]?=some x:=⟨s.bs[k],by simp[hk]⟩
  obtain⟨c1,c2⟩:=qjw (fp:=f.p) hx
  have hX:=qlU (fp:=f.p) (show k<=s.bs.length by omega)
  have hd:=qcc s.bs f.p k
  have hd2:=qcc s.bs f.p (k+1)
  have z:=qs3 (t:=x.t) (q:=x.q) (f:=f.p)
  have p1:=qdx x.t x.q f.p
  have p2:=qdx x.t x.q false
  have p3:=qis x.t x.q false
  have h2:(k:Int)<s.bs.length:=by omega
  have h3:k*9+1+1<=s.bs.length*9:=by omega
  have w1:IntKind.i64.wrap ((k:Int)+1)=((k+1:Nat):Int):=by rw[qay _ (by omega)]; omega
  simp only[gS] at *
  generalize vecAt s.bs f.p k=X at *
  generalize vecAt s.bs f.p (k+1)=Y at *
  generalize vecAt s.bs f.p s.bs.length=W at *
  generalize s.bs.length=n at *
  generalize shP x.t x.q f.p=P at *
  generalize shP x.t x.q false=P' at *
  generalize k+1=k' at *
  rw[<- ih]
  conv=>lhs; rw[qap]
  simp -implicitDefEqProofs [qao,qiZ,hd.l,hd.r,hd2.l,hd2.r,Wa,h2,hk,h3,hX,c1,c2,z,w1,p1,p2,p3]
  try exact qaB (by simp[hd2.l,hd2.r,Wa])
theorem qaL : ∀ c:List D,qaI (c.map V.dat)=some c
 |[]=>rfl
 |d::c=>by simp[qaI,qaL c]
theorem qnQ{bs:List Bod}{f:Bool} : ∀ d∈(bs.map (Bod.c · f)).flatten,(V.dat d).one=true:=by
 intro d hd
 simp only[List.mem_flatten,Wm] at hd
 obtain⟨l,⟨x,_,rfl⟩,h⟩:=hd
 simp only[Bod.c,Wq,WD,or_false] at h
 rcases h with rfl|rfl|rfl|rfl|rfl|rfl|rfl|rfl|rfl
 any_goals rfl
 exact qdx ..
theorem qqT{bs:List Bod}{fp fb:Bool}(h1:1<=bs.length)(h5:bs.length<=5):Z prX (.call 407 [.dat (qb6 bs fp fb)] [])=some (.ret (.own 0 bs.length 9) [.vec (((bs.map (Bod.c · fp)).flatten).map .dat)]):=by
 have hl:=qem bs fp
 have ho:=qnQ (bs:=bs) (f:=fp)
 have hd:=qas (bs.map (Bod.c · fp)).flatten
 have hr:qaA bs.length 88=true:=by simp[qaA]; omega
 have h0 : ¬ bs.length=0:=by omega
 refine qaD (pf:=F407) rfl rfl ?_
 simp only[qb6]
 generalize (bs.map (Bod.c · fp)).flatten=X at *
 generalize bs.length=n at *
 simp -implicitDefEqProofs [F407,qrG,appendO,qor,hl,hr,h0,hd.l,hd.r,Wa,if_pos ho]
def Flg.cl(s:Sup):Flg:=⟨false,false,false,decide (s.dr=0)⟩
theorem qqU{f:Bool}:Z prX (.call 409 [.dat (.sl roomC 3 f)] [])=some (.ret (.dat (.sl roomC 3 false)) []):=
 qej (sz:=4) (b:=32) rfl (by omega) (by omega) rfl rfl
theorem qqV{k:Nat}{f:Bool}(hk:k<3):Z prX (.call 410 [.dat (.sl (doorC k) (doorN k) f)] [])=some (.ret (.dat (.sl (doorC k) (doorN k) (decide (k=0)))) []):=by
 obtain rfl|rfl|rfl:k=0\/k=1\/k=2:=by omega
 ·exact qnv (sz:=2) (b:=16) rfl (by omega)
 ·exact qej (sz:=2) (b:=16) rfl (by omega) (by decide) rfl rfl
 ·exact qej (sz:=2) (b:=16) rfl (by omega) (by decide) rfl rfl
theorem qss{s:Sup}{f:Flg}(h:s.ok):Z prX (.call 463 [.dat (.agg (s.c f))] [])=some (.ret (.dat (.agg (s.c (Flg.cl s)))) []):=by
 have h1:1<=s.bs.length:=by have:=h.n1; have:=h.b1; omega
 have a1:=qqT (fp:=f.p) (fb:=f.b) h1 h.b3
 have a2:=qqU (f:=f.r)
 have a3:=qqV (f:=f.d) h.dr
 have l:=qnP (f:={ f with r:=f.r }) h.b3 s.bs.length 0 (by omega)
 have hd:=qcc s.bs f.p s.bs.length
 have e0:=qqR s.bs f.p
 have en:=qqS s.bs f.p
 have ha:=qaL (s.bs.map (Bod.c · false)).flatten
 have hX:=qas (s.bs.map (Bod.c · f.p)).flatten
 have hl:=qem s.bs false
 simp only[gS] at l
 simp only[Sup.c,qb6,di,Flg.cl] at *
 rw[e0] at l
 rw[en] at l hd
 generalize (s.bs.map (Bod.c · f.p)).flatten=X at *
 generalize (s.bs.map (Bod.c · false)).flatten=X' at *
 generalize roomC=Y at *
 generalize doorC s.dr=W at *
 generalize doorN s.dr=dn at *
 generalize decide (s.dr=0)=b at *
 generalize s.bs.length=n at *
 simp only[WI,Int.ofNat_zero] at l
 refine qaD (pf:=F463) rfl rfl ?_
 simp -implicitDefEqProofs [F463,a1,a2,a3,l,hd.l,hd.r,hX.l,hX.r,ha,hl,Wa]
end
section
open F
set_option maxRecDepth 100000
attribute [local simp] V.len qai
def Sup.sz(s:Sup):Nat:=48+4*s.n+8*s.bs.length
theorem qwy{s:Sup}{f:Flg}(h:s.ok):Z prX (.call 503 [.dat (.agg (s.c f))] [])=some (.ret (.int s.sz) []):=by
 have h1:=h.n3
 have h2:=h.b3
 have w1:IntKind.i64.wrap (4*(s.n:Int))=4*s.n:=qay _ (by omega)
 have w2:IntKind.i64.wrap (48+4*(s.n:Int))=48+4*s.n:=qay _ (by omega)
 have w3:IntKind.i64.wrap (8*(s.bs.length:Int))=8*s.bs.length:=qay _ (by omega)
 have w4:IntKind.i64.wrap (48+4*(s.n:Int)+8*s.bs.length)=(s.sz:Int):=by rw[qay _ (by omega)]; unfold Sup.sz; omega
 refine qaD (pf:=F503) rfl rfl ?_
 simp only[Sup.c,qb6,di]
 generalize (s.bs.map (Bod.c · f.p)).flatten=X
 generalize roomC=Y
 generalize doorC s.dr=W
 generalize doorN s.dr=dn
 generalize s.sz=N at *
 generalize s.bs.length=n at *
 simp -implicitDefEqProofs [F503,w1,w2,w3,w4]
theorem qrZ{s:Sup}{f:Flg}(h:s.ok){i:Nat}(hi:i<s.bs.length):Z prX (.call 100 [.dat (.agg (s.c f)),.int i] [])=some (.ret (.int ((48+4*s.n+8*i:Nat):Int)) []):=by
 have h1:=h.n3
 have h2:=h.b3
 have w1:IntKind.i64.wrap (4*(s.n:Int))=4*s.n:=qay _ (by omega)
 have w2:IntKind.i64.wrap (48+4*(s.n:Int))=48+4*s.n:=qay _ (by omega)
 have w3:IntKind.i64.wrap (8*(i:Int))=8*i:=qay _ (by omega)
 have w4:IntKind.i64.wrap (48+4*(s.n:Int)+8*i)=((48+4*s.n+8*i:Nat):Int):=by rw[qay _ (by omega)]; omega
 have n1 : ¬ (i:Int)<0:=by omega
 have n2 : ¬ (s.bs.length:Int)<=i:=by omega
 refine qaD (pf:=F100) rfl rfl ?_
 simp only[Sup.c,qb6,di]
 generalize (s.bs.map (Bod.c · f.p)).flatten=X
 generalize roomC=Y
 generalize doorC s.dr=W
 generalize doorN s.dr=dn
 generalize 48+4*s.n+8*i=N at *
 generalize s.bs.length=n at *
 simp -implicitDefEqProofs [F100,w1,w2,w3,w4,n1,n2]
def Bod.i(x:Bod):List Int:=[x.px,x.py,x.vx,x.vy,x.a,x.b,0,0]
def qdT(s:Sup)(k:Nat):List Int:=List.replicate (48+4*s.n) 0++((s.bs.take k).map Bod.i).flatten++List.replicate (8*(s.bs.length-k)) 0
theorem qwz(l:List Bod):((l.map Bod.i).flatten).length=l.length*8:=by
 rw[qbr (n:=8) (fun y hy=>by obtain⟨x,_,rfl⟩:=Wm.1 hy; rfl),Wf]
theorem qzD(m:Nat):List.replicate (8+m) (0:Int)=0::0::0::0::0::0::0::0::List.replicate m 0:=by
 rw[show 8+m=m+8 by omega]; rfl
theorem qlA{s:Sup}{k:Nat}(hk:k<=s.bs.length):(qdT s k).length=s.sz:=by
 have e:(((s.bs.take k).map Bod.i).flatten).length=k*8:=by
  rw[qwz,WR]; congr 1; omega
 simp only[qdT,Wt,List.length_replicate,e,Sup.sz]
 omega
def qoA(l:List V)(o:Nat)(v:V):List V:=l.take o++(v::l.drop (o+1))
theorem qqe{A B:List V}{v w:V}{o:Nat}(h:A.length=o):qoA (A++v::B) o w=A++w::B:=by
 subst h
 unfold qoA
 rw[List.take_left,show A.length+1=A.length+1 from rfl,<- List.drop_drop,List.drop_left]
 rfl
theorem qr0{l:List V}{o:Nat}{v:V}(h:o<l.length):(qoA l o v).length=l.length:=by
 simp only[qoA,Wt,WR,WK,Yf]; omega
theorem qoB {s:Sup} {k:Nat} {x:Bod} (hx:s.bs[k]?=some x) :
  qoA (qoA (qoA (qoA (qoA (qoA ((qdT s k).map V.int) (48+4*s.n+8*k) (.int x.px)) (48+4*s.n+8*k+1) (.int x.py)) (48+4*s.n+8*k+2) (.int x.vx)) (48+4*s.n+8*k+3) (.int x.vy)) (48+4*s.n+8*k+4) (.int x.a)) (48+4*s.n+8*k+5) (.int x.b)=(qdT s (k+1)).map V.int:=by
 have hk:k<s.bs.length:=(Wb.1 hx).1
 have et:s.bs.take (k+1)=s.bs.take k++[x]:=by rw[List.take_add_one,hx]; rfl
 have e8:=qzD (8*(s.bs.length-(k+1)))
 rw[show 8+8*(s.bs.length-(k+1))=8*(s.bs.length-k) by omega] at e8
 have e:(((s.bs.take k).map Bod.i).flatten).length=k*8:=by
  rw[qwz,WR]; congr 1; omega
 have hA:((List.replicate (48+4*s.n) (0:Int)++((s.bs.take k).map Bod.i).flatten).map V.int).length=48+4*s.n+8*k:=by
  simp only[Wf,Wt,List.length_replicate,e]; omega
 have p : ∀ {A P Q:List V} {v w:V} {b i:Nat},A.length=b->P.length=i->qoA (A++(P++v::Q)) (b+i) w=A++(P++w::Q):=fun {A P Q v w b i} h1 h2=>by
  rw[<- List.append_assoc,qqe (by rw[Wt,h1,h2]),WA]
 have q1:(qdT s k).map V.int=(List.replicate (48+4*s.n) (0:Int)++((s.bs.take k).map Bod.i).flatten).map V.int++(V.int 0::V.int 0::V.int 0::V.int 0::V.int 0::V.int 0::V.int 0::V.int 0::(List.replicate (8*(s.bs.length-(k+1))) (0:Int)).map V.int):=by
  simp only[qdT,e8,List.map_append,Wi,WA]
 have q2:(qdT s (k+1)).map V.int=(List.replicate (48+4*s.n) (0:Int)++((s.bs.take k).map Bod.i).flatten).map V.int++(V.int x.px::V.int x.py::V.int x.vx::V.int x.vy::V.int x.a::V.int x.b::V.int 0::V.int 0::(List.replicate (8*(s.bs.length-(k+1))) (0:Int)).map V.int):=by
  simp only[qdT,et,List.map_append,List.flatten_append,Wi,Wr,WJ,List.flatten_nil,Wp,WA,Bod.i,Wu,Wk]
 rw[q1,q2]
 generalize (List.replicate (48+4*s.n) (0:Int)++((s.bs.take k).map Bod.i).flatten).map V.int=A at *
 generalize (List.replicate (8*(s.bs.length-(k+1))) (0:Int)).map V.int=B
 generalize 48+4*s.n+8*k=b at *
 have r0:=fun (v w:V) (Q:List V)=>p (P:=[]) (Q:=Q) (v:=v) (w:=w) hA rfl
 have r1:=fun (a v w:V) (Q:List V)=>p (P:=[a]) (Q:=Q) (v:=v) (w:=w) hA rfl
 have r2:=fun (a c v w:V) (Q:List V)=>p (P:=[a,c]) (Q:=Q) (v:=v) (w:=w) hA rfl
 have r3:=fun (a c d v w:V) (Q:List V)=>p (P:=[a,c,d]) (Q:=Q) (v:=v) (w:=w) hA rfl
 have r4:=fun (a c d e v w:V) (Q:List V)=>p (P:=[a,c,d,e]) (Q:=Q) (v:=v) (w:=w) hA rfl
 have r5:=fun (a c d e f v w:V) (Q:List V)=>p (P:=[a,c,d,e,f]) (Q:=Q) (v:=v) (w:=w) hA rfl
 simp only[Wu,Wk,W4,WK,W1,WF] at r0 r1 r2 r3 r4 r5
 rw[r0,r1,r2,r3,r4,r5]
end
section
open F
set_option maxRecDepth 100000
attribute [local simp] V.len qai
def IntL(l:List V):Prop := ∃ zs:List Int,l=zs.map V.int
theorem IntL.dats{l:List V}(h:IntL l):Dats l:=by
 obtain⟨zs,rfl⟩:=h
 rw[show zs.map V.int=(zs.map di).map .dat by simp]
 exact qas _
theorem qiG{l:List V}{o:Nat}(x:Int)(hd:IntL l)(h:o<l.length) : ∃ M,l.take o++(V.int x::l.drop (o+1))=M/\M.length=l.length/\IntL M/\qoA l o (.int x)=M:=by
 obtain⟨zs,rfl⟩:=hd
 refine⟨_,rfl,?_,⟨zs.take o++x::zs.drop (o+1),?_⟩,rfl⟩
 ·exact qr0 (v := .int x) h
 ·simp
theorem qkw {s:Sup} {f:Flg} (h:s.ok) : ∀ j k:Nat,k+j=s.bs.length ->
  Z prX (.loop 0 F464l0 [(1,.ptr 0 0),(3,.msl 1 0 s.sz s.sz 1),(19,.dat (qb6 s.bs f.p f.b)),(20,.int s.bs.length),(21,.int k)] [.cells ((s.c f).map .dat),.cells ((qdT s k).map V.int)]) =
   some (.out (.exit 0) [(1,.ptr 0 0),(3,.msl 1 0 s.sz s.sz 1),(19,.dat (qb6 s.bs f.p f.b)),(20,.int s.bs.length),(21,.int s.bs.length),(22,.bool false)] [.cells ((s.c f).map .dat),.cells ((qdT s s.bs.length).map V.int)])
 |0,k,e=>by
  obtain rfl:k=s.bs.length:=by omega
  have hd:=qas (s.c f)
  have hi:Dats ((qdT s s.bs.length).map V.int):=IntL.dats ⟨_,rfl⟩
  generalize (s.c f).map V.dat=C at *
  generalize (qdT s s.bs.length).map V.int=I at *
  rw[qap]
  simp[qao,qi0,qb6,hd.l,hd.r,hi.l,hi.r,Wa]
 |j+1,k,e=>by
  have ih:=qkw (f:=f) h j (k+1) (by omega)
  have hk:k<s.bs.length:=by omega
  have hb3:=h.b3
  have hn3:=h.n3
  obtain⟨x,hx⟩ : ∃ x,s.bs[k]?=some x:=⟨s.bs[k],by simp[hk]⟩
  have c1:=qgj (f:=f.p) hx
  have c2:=qdx x.t x.q f.p
  have z:=qrZ (f:=f) h hk
  have h2:(k:Int)<s.bs.length:=by omega
  have w1:IntKind.i64.wrap ((k:Int)+1)=((k+1:Nat):Int):=by rw[qay _ (by omega)]; omega
  have st:=qoB hx
  have hb:48+4*s.n+8*k+8<=s.sz:=by unfold Sup.sz; omega
  have l0:=qlA (show k<=s.bs.length by omega)
  have i0:IntL ((qdT s k).map V.int):=⟨_,rfl⟩
  rw[<- List.length_map (f:=V.int)] at l0
  have cS:qad ((s.c f).map V.dat) 0 16=some ((s.c f).map V.dat):=by simp[Sup.c,qad]
  have oS:(V.dat (.agg (s.c f))).cells=(s.c f).map .dat:=rfl
  have hd:=qas (s.c f)
  have ha:=qaL (s.c f)
  simp only[qb6] at *
  generalize (s.bs.map (Bod.c · f.p)).flatten=X at *
  generalize s.c f=SC at *
  generalize (qdT s k).map V.int=M0 at *
  generalize (qdT s (k+1)).map V.int=M6 at *
  generalize (qdT s s.bs.length).map V.int=ME at *
  generalize 48+4*s.n+8*k=b at *
  generalize s.sz=N at *
  obtain⟨M1,f1,l1,i1,g1⟩:=qiG (o:=b) x.px i0 (by omega)
  rw[g1] at st
  obtain⟨M2,f2,l2,i2,g2⟩:=qiG (o:=b+1) x.py i1 (by omega)
  rw[g2] at st
  obtain⟨M3,f3,l3,i3,g3⟩:=qiG (o:=b+2) x.vx i2 (by omega)
  rw[g3] at st
  obtain⟨M4,f4,l4,i4,g4⟩:=qiG (o:=b+3) x.vy i3 (by omega)
  rw[g4] at st
  obtain⟨M5,f5,l5,i5,g5⟩:=qiG (o:=b+4) x.a i4 (by omega)
  rw[g5] at st
  obtain⟨M6',f6,l6,i6,g6⟩:=qiG (o:=b+5) x.b i5 (by omega)
  rw[g6] at st
  subst st
  have d0:=i0.dats
  have d1:=i1.dats
  have d2:=i2.dats
  have d3:=i3.dats
  have d4:=i4.dats
  have d5:=i5.dats
  have d6:=i6.dats
  simp only[Bod.c,di] at *
  generalize s.bs.length=n at *
  generalize shR x.t x.q=R at *
  generalize shP x.t x.q f.p=P at *
  generalize k+1=k' at *
  have nb : ¬ N=b:=by omega
  have bb:(b:Int)<=N:=by omega
  have bn:b<=N:=by omega
  have sl:qcL 1 (some (.int b)) none (.msl 1 0 N N 1)=some (.msl 1 b (N-b) (N-b) 1):=by simp[qcL,bound,nb,bn]
  have b0:(0:Int)<((N-b:Nat):Int):=by omega
  have b1:(1:Int)<((N-b:Nat):Int):=by omega
  have b2:(2:Int)<((N-b:Nat):Int):=by omega
  have b3:(3:Int)<((N-b:Nat):Int):=by omega
  have b4:(4:Int)<((N-b:Nat):Int):=by omega
  have b5:(5:Int)<((N-b:Nat):Int):=by omega
  have k0:0<N-b:=by omega
  have k1:1<N-b:=by omega
  have k2:2<N-b:=by omega
  have k3:3<N-b:=by omega
  have k4:4<N-b:=by omega
  have k5:5<N-b:=by omega
  have e0:b+1<=N:=by omega
  have e1:b+1+1<=N:=by omega
  have e2:b+2+1<=N:=by omega
  have e3:b+3+1<=N:=by omega
  have e4:b+4+1<=N:=by omega
  have e5:b+5+1<=N:=by omega
  rw[l1] at l2; rw[l2] at l3; rw[l3] at l4; rw[l4] at l5; rw[l5] at l6
  rw[l0] at l1 l2 l3 l4 l5 l6
  generalize N-b=m at *
  rw[<- ih]
  conv=>lhs; rw[qap]
  simp -implicitDefEqProofs [qao,qi0,sl,ha,hd.l,hd.r,d0.l,d0.r,d1.l,d1.r,d2.l,d2.r,d3.l,d3.r,d4.l,d4.r,d5.l,d5.r,d6.l,d6.r,Wa,h2,hk,c1,c2,cS,oS,z,w1,nb,bb,b0,b1,b2,b3,b4,b5,k0,k1,k2,k3,k4,k5,e0,e1,e2,e3,e4,e5,l0,l1,l2,l3,l4,l5,l6,f1,f2,f3,f4,f5,f6]
  try exact qaB (by simp[hd.l,hd.r,d6.l,d6.r,Wa])
end
section
open F
set_option maxRecDepth 100000
attribute [local simp] V.len qai
theorem quN(s:Sup):qdT s 0=List.replicate s.sz 0:=by
 simp only[qdT,List.take_zero,Wr,List.flatten_nil,Wp,Nat.sub_zero,List.replicate_append_replicate,Sup.sz]
def initZ(s:Sup):List Int:=qdT s s.bs.length
theorem qil(s:Sup):(initZ s).length=s.sz:=qlA (Wg _)
theorem qqC : ∀ N:Nat,qbU N [di 0]=List.replicate N (di 0)
 |0=>rfl
 |N+1=>by
  show [di 0]++qbU N [di 0]=_
  rw[qqC N]; rfl
theorem qmL(zs:List Int):qaI (zs.map V.int)=some (intsC zs):=by
 rw[show zs.map V.int=(intsC zs).map .dat by simp[intsC]]
 exact qaL _
theorem qqD{s:Sup}{f:Flg}(h:s.ok):Z prX (.call 464 [.dat (.agg (s.c f))] [])=some (.ret (.dat (.sl (intsC (initZ s)) s.sz false)) []):=by
 have hb3:=h.b3
 have hn3:=h.n3
 have a1:=qwy (f:=f) h
 have l:=qkw (f:=f) h s.bs.length 0 (by omega)
 have n1 : ¬ (s.n:Int)<0:=by omega
 have n2 : ¬ (1048576:Int)<s.n:=by omega
 have hN:s.sz<=1000:=by unfold Sup.sz; omega
 have hl:=qil s
 have hi:Dats ((initZ s).map V.int):=IntL.dats ⟨_,rfl⟩
 have ha:=qmL (initZ s)
 have m1:(s.sz:Int)<=1099511627776:=by omega
 have m2:8*(s.sz:Int)<=281474976710656:=by omega
 have rp:(qbU s.sz [di 0]).map V.dat=List.replicate s.sz (V.int 0):=by rw[qqC,List.map_replicate]
 simp only[di] at rp
 have r0:qaA s.sz 8=true:=by simp[qaA]; omega
 rw[quN] at l
 rw[List.map_replicate] at l
 have hz:Dats (List.replicate s.sz (V.int 0)):=IntL.dats ⟨List.replicate s.sz 0,by rw[List.map_replicate]⟩
 have lz:(List.replicate s.sz (V.int 0)).length=s.sz:=List.length_replicate
 have hc:=qas (s.c f)
 have hac:=qaL (s.c f)
 unfold initZ at *
 generalize (qdT s s.bs.length)=I at *
 have hlI:(I.map V.int).length=s.sz:=by rw[Wf,hl]
 have tk:List.take s.sz (intsC I)=intsC I:=Wl (by simp[intsC,hl])
 simp only[Sup.c,qb6,di,Wi,Wr] at *
 generalize (s.bs.map (Bod.c · f.p)).flatten=X at *
 generalize roomC=Y at *
 generalize doorC s.dr=W at *
 generalize doorN s.dr=dn at *
 generalize s.sz=N at *
 generalize I.map V.int=J at *
 simp only[WI,Int.ofNat_zero] at l
 refine qaD (pf:=F464) rfl rfl ?_
 simp -implicitDefEqProofs [F464,a1,n1,n2,r0,m1,m2,rp,l,hz.l,hz.r,hi.l,hi.r,ha,hlI,hl,tk,Wa]
def qdi(zs:List Int)(k:Nat):List Int:=zs.take k++List.replicate (zs.length-k) 0
theorem qqE{zs:List Int}{k:Nat}(h:k<=zs.length):(qdi zs k).length=zs.length:=by
 simp only[qdi,Wt,WR,List.length_replicate]; omega
theorem qoF{zs:List Int}{k:Nat}{x:Int}(h:zs[k]?=some x):((qdi zs k).map V.int).take k++(V.int x::((qdi zs k).map V.int).drop (k+1))=(qdi zs (k+1)).map V.int:=by
 have hk:k<zs.length:=(Wb.1 h).1
 have hl:(zs.take k).length=k:=by rw[WR]; omega
 have e:qdi zs k=zs.take k++(0::List.replicate (zs.length-(k+1)) 0):=by
  simp only[qdi,show zs.length-k=(zs.length-(k+1))+1 by omega,List.replicate_succ]
 have et:zs.take (k+1)=zs.take k++[x]:=by rw[List.take_add_one,h]; rfl
 have:=qqe (A:=(zs.take k).map V.int) (B:=(List.replicate (zs.length-(k+1)) (0:Int)).map V.int) (v := .int 0) (w := .int x) (o:=k) (by rw[Wf,hl])
 unfold qoA at this
 rw[e,List.map_append,Wi,this]
 simp only[qdi,et,List.map_append,Wi,Wr,WA,Wu,Wk]
theorem qnE {zs:List Int} (hn:zs.length<=1000) : ∀ j k:Nat,k+j=zs.length ->
  Z prX (.loop 0 F46l0 [(0,.dat (.sl (intsC zs) zs.length false)),(3,.ptr 0 0),(11,.int zs.length),(12,.int k)] [.cells [.msl 1 0 zs.length zs.length 1,qax,.int 0],.cells ((qdi zs k).map V.int)]) =
   some (.out (.exit 0) [(0,.dat (.sl (intsC zs) zs.length false)),(3,.ptr 0 0),(11,.int zs.length),(12,.int zs.length),(13,.bool false)] [.cells [.msl 1 0 zs.length zs.length 1,qax,.int 0],.cells ((qdi zs zs.length).map V.int)])
 |0,k,e=>by
  obtain rfl:k=zs.length:=by omega
  have hd:Dats ((qdi zs zs.length).map V.int):=IntL.dats ⟨_,rfl⟩
  generalize (qdi zs zs.length).map V.int=C at *
  rw[qap]
  simp[qao,qlh,hd.l,hd.r,Wa]
 |j+1,k,e=>by
  have ih:=qnE hn j (k+1) (by omega)
  have hk:k<zs.length:=by omega
  obtain⟨x,hx⟩ : ∃ x,zs[k]?=some x:=⟨zs[k],by simp[hk]⟩
  have c1:=qhB zs k hk
  have ex:zs[k]=x:=(Wb.1 hx).2
  rw[ex] at c1
  clear ex
  have st:=qoF hx
  have h2:(k:Int)<zs.length:=by omega
  have h3:k+1<=zs.length:=by omega
  have w1:IntKind.i64.wrap ((k:Int)+1)=((k+1:Nat):Int):=by rw[qay _ (by omega)]; omega
  have hl:((qdi zs k).map V.int).length=zs.length:=by rw[Wf,qqE (by omega)]
  have hd:Dats ((qdi zs k).map V.int):=IntL.dats ⟨_,rfl⟩
  have hd2:Dats ((qdi zs (k+1)).map V.int):=IntL.dats ⟨_,rfl⟩
  clear hx
  generalize (qdi zs k).map V.int=M at *
  generalize (qdi zs (k+1)).map V.int=M' at *
  generalize (qdi zs zs.length).map V.int=ME at *
  generalize intsC zs=IC at *
  generalize zs.length=N at *
  generalize hk':k+1=k' at *
  rw[<- ih]
  conv=>lhs; rw[qap]
  simp -implicitDefEqProofs [qao,qlh,hd.l,hd.r,hd2.l,hd2.r,Wa,h2,hk,h3,c1,st,w1,hl,hk']
  try exact qaB (by simp[hd2.l,hd2.r,Wa])
theorem qsn{zs:List Int}(hn:zs.length<=1000):Z prX (.call 46 [.dat (.sl (intsC zs) zs.length false)] [])=some (.ret (.ptr 0 0) [.cells [.msl 1 0 zs.length zs.length 1,qax,.int 0],.cells (zs.map V.int)]):=by
 have l:=qnE hn zs.length 0 (by omega)
 have e0:(qdi zs 0).map V.int=List.replicate zs.length (V.int 0):=by simp[qdi]
 have en:qdi zs zs.length=zs:=by simp[qdi]
 rw[e0,en] at l
 have m1:(zs.length:Int)<=1099511627776:=by omega
 have m2:8*(zs.length:Int)<=281474976710656:=by omega
 have rp:(qbU zs.length [di 0]).map V.dat=List.replicate zs.length (V.int 0):=by rw[qqC,List.map_replicate]
 have hz:Dats (List.replicate zs.length (V.int 0)):=IntL.dats ⟨List.replicate zs.length 0,by rw[List.map_replicate]⟩
 have hi:Dats (zs.map V.int):=IntL.dats ⟨_,rfl⟩
 simp only[di] at rp
 generalize List.replicate zs.length (V.int 0)=ZZ at *
 generalize zs.map V.int=J at *
 generalize intsC zs=IC at *
 generalize zs.length=N at *
 simp only[WI,Int.ofNat_zero] at l
 have l':Z prX (.loop 0 F46l0 [(0,.dat (.sl IC N false)),(3,.ptr 1 0),(11,.int N),(12,.int 0)] [.cells ZZ,.cells [.msl 0 0 N N 1,qax,.int 0]])=_:=(qaB (by simp[hz.l,hz.r,Wa])).trans l
 refine qaD (pf:=F46) rfl rfl ?_
 simp -implicitDefEqProofs [F46,m1,m2,rp,l',hz.l,hz.r,hi.l,hi.r,Wa]
end
section
open F
set_option maxRecDepth 100000
attribute [local simp] V.len qai
def qlt(s:Sup)(K:List D)(l:Nat)(z:List Int):S:=
 [.cells ((s.c (Flg.cl s)).map .dat++[.dat (.imm K 0),.ptr (l+1) 0]),.cells [.msl (l+2) 0 z.length z.length 1,qax,.int 0],.cells (z.map V.int)]
theorem qsR {s:Sup} {f:Flg} (h:s.ok) (hr:1<=s.rnd/\s.rnd<=4) {K:List D} :
  Z prX (.call 419 [.dat (.agg (s.c f)),.dat (.imm K 0)] [])=some (.ret (.tup [.ptr 0 0,.int 0]) (qlt s K 0 (initZ s))):=by
 have a1:=qfg (f:=f) h
 have a2:=qss (f:=f) h
 have a3:=qqD (f:=f) h
 have hN:(initZ s).length<=1000:=by
  have:=h.n3; have:=h.b3
  rw[qil]; unfold Sup.sz; omega
 have a4:=qsn hN
 rw[<- qil s] at a3
 have hi:Dats ((initZ s).map V.int):=IntL.dats ⟨_,rfl⟩
 simp only[qsq,if_pos hr] at a1
 unfold qlt
 generalize initZ s=I at *
 simp only[Sup.c,qb6,di,Wi,Wr,Flg.cl] at *
 generalize (s.bs.map (Bod.c · f.p)).flatten=X at *
 generalize (s.bs.map (Bod.c · false)).flatten=X' at *
 generalize roomC=Y at *
 generalize doorC s.dr=W at *
 generalize doorN s.dr=dn at *
 generalize decide (s.dr=0)=b at *
 generalize I.map V.int=J at *
 generalize intsC I=IC at *
 generalize I.length=N at *
 generalize s.bs.length=m at *
 refine qaD (pf:=F419) rfl rfl ?_
 simp -implicitDefEqProofs [F419,a1,a2,a3,a4,hi.l,hi.r,Wa]
end
section
open F
set_option maxRecDepth 100000
attribute [local simp] V.len qai
theorem qwB{cs:List V}(hd:Dats cs){N:Nat}:Z prX (.call 425 [.ptr 0 0,.int 12] [.cells [.msl 1 0 N N 1,qax,.int 0],.cells cs])=some (.ret (.ptr 2 0) [.cells [.msl 1 0 N N 1,qax,.int 0],.cells cs,.cells [.ptr 0 0,.int 12,qax]]):=by
 refine qaD (pf:=F425) rfl rfl ?_
 simp -implicitDefEqProofs [F425,hd.l,hd.r,Wa,qmx,qpM,qpN]
theorem qr4 {G cs:List V} (hg:Dats G) (h16:G.length=16) (hd:Dats cs) {K:List D} {N:Nat} :
  Z prX (.call 426 [.ptr 0 0] [.cells (G++[.dat (.imm K 0),.ptr 1 0]),.cells [.msl 2 0 N N 1,qax,.int 0],.cells cs])=some (.ret (.ptr 1 0) [.cells (G++[.dat (.imm K 0),.ptr 1 0]),.cells [.msl 2 0 N N 1,qax,.int 0],.cells cs]):=by
 have c1:qad (G++[V.dat (.imm K 0),V.ptr 1 0]) 17 1=some [V.ptr 1 0]:=by
  unfold qad
  rw[show 17=G.length+1 by omega,<- List.drop_drop,List.drop_left]
  simp
 have l1:qau (G++[V.dat (.imm K 0),V.ptr 1 0])=[1]:=by
  have : ∀ (a b:List V),qau (a++b)=qau a++qau b:=fun a b=>by
   induction a with
   |nil=>rfl
   |cons x a ih=>simp[qau,ih]
  rw[this,hg.l]; rfl
 have r1 : ∀ f,qbl f (G++[V.dat (.imm K 0),V.ptr 1 0])=G++[V.dat (.imm K 0),V.ptr (f 1) 0]:=fun f=>by
  have : ∀ (a b:List V),qbl f (a++b)=qbl f a++qbl f b:=fun a b=>by
   induction a with
   |nil=>rfl
   |cons x a ih=>simp[qbl,ih]
  rw[this,hg.r]; rfl
 refine qaD (pf:=F426) rfl rfl ?_
 generalize hX:G++[V.dat (.imm K 0),V.ptr 1 0]=X at *
 simp -implicitDefEqProofs [F426,c1,l1,r1,hd.l,hd.r,Wa]
 try exact hX
def peerS(s:Sup)(K:List D)(p:Int)(z:List Int):S:=
 [.cells [.int s.n,.int p,.int 12,.ptr 1 0,.ptr 2 0,.mp 3,qax,.int 0,qax,qax,.int 0,.ptr 4 0],
  .cells ((s.c (Flg.cl s)).map .dat++[.dat (.imm K 0),.ptr 5 0]),.cells [.ptr 5 0,.int 12,qax],.map [],
  .cells ((s.c (Flg.cl s)).map .dat++[.dat (.imm K 0),.ptr 6 0]),.cells [.msl 7 0 z.length z.length 1,qax,.int 0],.cells [.msl 8 0 z.length z.length 1,qax,.int 0],.cells (z.map V.int),.cells (z.map V.int)]
theorem qwC {s:Sup} {f:Flg} (h:s.ok) (hr:1<=s.rnd/\s.rnd<=4) {p:Nat} (hp:p<s.n) {K:List D} :
  Z prX (.call 379 [.dat (.agg (s.c f)),.dat (.imm K 0),.int p,.int 12] [])=some (.ret (.tup [.ptr 0 0,.int 0]) (peerS s K p (initZ s))):=by
 have a1:=qsR (f:=f) h hr (K:=K)
 have hi:Dats ((initZ s).map V.int):=IntL.dats ⟨_,rfl⟩
 have a2:=qwB hi (N:=(initZ s).length)
 have a3:=qr4 (G:=(s.c (Flg.cl s)).map .dat) (qas _) (by simp[Sup.c]) hi (K:=K) (N:=(initZ s).length)
 have p1 : ¬ (p:Int)<0:=by omega
 have p2 : ¬ (s.n:Int)<=p:=by omega
 unfold peerS
 unfold qlt at a1
 generalize initZ s=I at *
 simp only[Sup.c,qb6,di,Wi,Wr,Wu,Wk,Flg.cl] at *
 generalize (s.bs.map (Bod.c · f.p)).flatten=X at *
 generalize (s.bs.map (Bod.c · false)).flatten=X' at *
 generalize roomC=Y at *
 generalize doorC s.dr=W at *
 generalize doorN s.dr=dn at *
 generalize decide (s.dr=0)=b at *
 generalize I.map V.int=J at *
 generalize I.length=N at *
 generalize s.bs.length=m at *
 refine qaD (pf:=F379) rfl rfl ?_
 simp -implicitDefEqProofs [F379,qdw,a1,a2,a3,p1,p2,hi.l,hi.r,Wa]
end
section
open F
set_option maxRecDepth 100000
attribute [local simp] V.len qai
theorem qt3:Z prX (.call 377 [.dat (.lit (.slice none 0 0))] [])=some (.ret (.tup [.ptr 0 0,vi 0]) [.cells [.dat (.lit (.slice none 0 0)),.dat (.lit (.slice none 0 0))]]):=byK 200 (by kernel_rfl)
theorem qpY:Z prX (.call 420 [.ptr 0 0] [.cells [.dat (.lit (.slice none 0 0)),.dat (.lit (.slice none 0 0))]])=some (.ret (.dat (.sl [] 0 false)) [.cells [.dat (.lit (.slice none 0 0)),.dat (.lit (.slice none 0 0))]]):=byK 200 (by kernel_rfl)
theorem qrN:Z prX (.call 380 [] [])=some (.ret (.ptr 0 0) [.cells (vs [0,0,0,0,0,0,0,0,0,0,0,0,0,0,0,0,0,0])]):=byK 200 (by kernel_rfl)
theorem qt4:Z prX (.call 381 [] [])=some (.ret (.ptr 0 0) [.cells [.mp 1,vi 0],.map []]):=byK 200 (by kernel_rfl)
theorem qrO:Z prX (.call 384 [vi 16] [])=some (.ret (.ptr 0 0) [.cells [vi 16,vi 0,.mp 1],.map []]):=byK 200 (by kernel_rfl)
theorem qow:Z prX (.call 385 [vi 16] [])=some (.ret (.ptr 0 0) [.cells [vi 16,vi 0,.mp 1],.map []]):=byK 200 (by kernel_rfl)
theorem qt5{n:Nat}{w:Int}(h1:1<=n)(h3:n<=3)(h0:0<=w)(h8:w<=8):Z prX (.call 418 [.int n,.int w] [])=some (.ret (.ptr 0 0) [.cells [.int n,.int w,.mp 1,qax],.map []]):=by
 have e1 : ¬ (8:Int)<n:=by omega
 have e2 : ¬ (n:Int)<1:=by omega
 have e3 : ¬ (8:Int)<w:=by omega
 have e4 : ¬ w<0:=by omega
 have e5:(1:Int)<=n:=by omega
 have e6:(n:Int)<=8:=by omega
 refine qaD (pf:=F418) rfl rfl ?_
 simp -implicitDefEqProofs [F418,qmx,qpM,qpN,e1,e2,e3,e4,e5,e6,h0,h8,Wa]
 omega
end
section
open F
set_option maxRecDepth 100000
attribute [local simp] V.len qai
def RowD(sz:Nat)(d:D)(ls:List (List D)):Prop:=(∀ y∈ls,y.length=sz)/\((d = .lit (.slice none 0 0)/\ls=[]) \/ ∃ f,d = .sl ls.flatten ls.length f)
section
variable{sz:Nat}{d:D}{ls:List (List D)}
theorem RowD.len(h:RowD sz d ls)(σ : S):V.len σ .sl (.dat d)=some (ls.length:Int):=by
 obtain⟨_,⟨rfl,rfl⟩|⟨f,rfl⟩⟩:=h<;>rfl
theorem RowD.one(h:RowD sz d ls):V.one (.dat d)=true:=by
 obtain⟨_,⟨rfl,rfl⟩|⟨f,rfl⟩⟩:=h<;>rfl
theorem RowD.cells(h:RowD sz d ls):V.cells (.dat d)=[.dat d]:=by
 obtain⟨_,⟨rfl,rfl⟩|⟨f,rfl⟩⟩:=h<;>rfl
theorem RowD.at(h:RowD sz d ls){i:Nat}(hi:i<ls.length):qai sz (.dat d) (i:Int)=some (.dat (.imm ls.flatten (i*sz))):=by
 obtain⟨_,⟨rfl,rfl⟩|⟨f,rfl⟩⟩:=h
 ·simp at hi
 ·have:(i:Int)<ls.length:=by omega
  simp[qai,this]
theorem RowD.cut(h:RowD sz d ls){i:Nat}{x:List D}(hx:ls[i]?=some x):qad ls.flatten (i*sz) sz=some x:=qgg h.1 hx
theorem RowD.clone(h:RowD sz d ls){k b:Nat}(hk:prX k=some (clF sz b))(hs:0<sz)(hr:qaA ls.length b=true) : ∃ d',RowD sz d' ls/\Z prX (.call k [.dat d] [])=some (.ret (.dat d') []):=by
 obtain⟨h1,⟨rfl,rfl⟩|⟨f,rfl⟩⟩:=h
 ·exact⟨_,⟨h1,.inl ⟨rfl,rfl⟩⟩,qlL hk⟩
 ·rcases W6 ls.length with h0|h0
  ·have:ls=[]:=List.length_eq_zero_iff.1 h0
   subst this
   exact⟨_,⟨h1,.inr ⟨true,rfl⟩⟩,qnv hk hs⟩
  ·exact⟨_,⟨h1,.inr ⟨false,rfl⟩⟩,qej hk hs h0 (qbr h1) hr⟩
end
structure Lnk where
 d:Int
 j:Int
 l:Int
 p:Int
def Lnk.c(x:Lnk):List D:=[di x.d,di x.j,di x.l,di x.p]
def qd3(n:Int):Bool:=decide (n=0\/(2<=n/\n<=1000))
def Lnk.ok(x:Lnk):Bool:=decide ((0<=x.d/\x.d<=20)/\(0<=x.j/\x.j<=10))&&(qd3 x.l&&qd3 x.p)
structure Cmd where
 at_:Int
 pl:Int
 dx:Int
 dy:Int
 ac:Int
def Cmd.c(x:Cmd):List D:=[di x.at_,di x.pl,di x.dx,di x.dy,di x.ac]
def qg4(dx dy ac:Int):Bool:=decide ((-1<=dx/\dx<=1)/\(-1<=dy/\dy<=1)/\(0<=ac/\ac<=3))
def qfB(n:Nat)(p:Int):Bool:=decide (0<=p/\p<n)
def Cmd.ok(n:Nat)(x:Cmd):Bool:=decide (0<=x.at_)&&(qfB n x.pl&&qg4 x.dx x.dy x.ac)
theorem qvC(n:Int):Z prX (.call 404 [.int n] [])=some (.ret (.bool (qd3 n)) []):=by
 refine qaD (pf:=F404) rfl rfl ?_
 unfold qd3
 by_cases h1:n=0
 ·subst h1; simp[F404,Wa]
 ·by_cases h2:2<=n
  ·by_cases h3:n<=1000
   ·simp[F404,h1,h2,h3,Wa]
   ·simp[F404,h1,h2,h3,Wa]
  ·simp[F404,h1,h2,Wa]
theorem qjN(v lo hi:Int):Z prX (.call 458 [.int v,.int lo,.int hi] [])=some (.ret (.bool (decide (lo<=v/\v<=hi))) []):=by
 refine qaD (pf:=F458) rfl rfl ?_
 by_cases h1:lo<=v
 ·simp[F458,h1,Wa]
 ·simp[F458,h1,Wa]
theorem qtt(dx dy ac:Int):Z prX (.call 406 [.dat (.agg [di dx,di dy,di ac])] [])=some (.ret (.int (if qg4 dx dy ac then 0 else 1)) []):=by
 have a1:=qjN dx (-1) 1
 have a2:=qjN dy (-1) 1
 have a3:=qjN ac 0 3
 refine qaD (pf:=F406) rfl rfl ?_
 unfold qg4
 by_cases h1 : -1<=dx/\dx<=1
 ·by_cases h2 : -1<=dy/\dy<=1
  ·by_cases h3:0<=ac/\ac<=3
   ·simp only[h1,h2,h3,decide_true] at a1 a2 a3
    simp[F406,di,a1,a2,a3,h1,h2,h3,Wa]
   ·simp only[h1,h2,h3,decide_true,decide_false] at a1 a2 a3
    simp[F406,di,a1,a2,a3,h1,h2,h3,Wa]
  ·simp only[h1,h2,decide_true,decide_false] at a1 a2
   simp[F406,di,a1,a2,h1,h2,Wa]
 ·simp only[h1,decide_false] at a1
  simp[F406,di,a1,h1,Wa]
theorem qm6{cs:List V}(hd:Dats cs){n:Nat}(hc:qad cs 0 1=some [.int n])(p:Int):Z prX (.call 405 [.int p,.ptr 0 0] [.cells cs])=some (.ret (.bool (qfB n p)) [.cells cs]):=by
 refine qaD (pf:=F405) rfl rfl ?_
 unfold qfB
 by_cases h1:0<=p
 ·simp[F405,h1,hc,hd.l,hd.r,Wa]
 ·simp[F405,h1,hc,hd.l,hd.r,Wa]
section
variable{cs:List V}{n:Nat}{d:D}
theorem qpd (hd:Dats cs) {ls:List Lnk} (hr:RowD 4 d (ls.map Lnk.c)) (hl:ls.length<=1000) : ∀ j k:Nat,k+j=ls.length ->
  ((ls.drop k).all Lnk.ok=true/\Z prX (.loop 0 F374l0 [(1,.ptr 0 0),(3,.fn 404 [] []),(4,.fn 405 [] [.ptr 0 0]),(15,.dat d),(16,.int ls.length),(17,.int k)] [.cells cs]) =
    some (.out (.exit 0) [(1,.ptr 0 0),(3,.fn 404 [] []),(4,.fn 405 [] [.ptr 0 0]),(15,.dat d),(16,.int ls.length),(17,.int ls.length),(18,.bool false)] [.cells cs])) \/
  ((ls.drop k).all Lnk.ok=false /\ ∃ q,Dats q/\Z prX (.loop 0 F374l0 [(1,.ptr 0 0),(3,.fn 404 [] []),(4,.fn 405 [] [.ptr 0 0]),(15,.dat d),(16,.int ls.length),(17,.int k)] [.cells cs])=some (.out .ret [(2,.bool false)] [.cells cs,.cells q]))
 |0,k,e=>by
  obtain rfl:k=ls.length:=by omega
  left
  refine⟨by simp,?_⟩
  rw[qap]
  simp[qao,qb8,hd.l,hd.r,Wa]
 |j+1,k,e=>by
  have hk:k<ls.length:=by omega
  obtain⟨x,hx⟩ : ∃ x,ls[k]?=some x:=⟨ls[k],by simp[hk]⟩
  have hdr:ls.drop k=x::ls.drop (k+1):=by
   rw[W5 hk]
   congr 1
   exact (Wb.1 hx).2
  have c0:=hr.at (i:=k) (by simpa using hk)
  have c1:=hr.cut (i:=k) (x:=x.c) (by simp[hx])
  have h2:(k:Int)<ls.length:=by omega
  have w1:IntKind.i64.wrap ((k:Int)+1)=((k+1:Nat):Int):=by rw[qay _ (by omega)]; omega
  have p1:=qvC x.l
  have p2:=qvC x.p
  rw[hdr]
  by_cases hx0:x.ok=true
  ·have ih:=qpd hd hr hl j (k+1) (by omega)
   have hx1:=hx0
   simp only[Lnk.ok,Wh,decide_eq_true_eq] at hx1
   obtain⟨⟨⟨e1,e2⟩,e3,e4⟩,e5,e6⟩:=hx1
   rw[e5] at p1; rw[e6] at p2
   have n1 : ¬ x.d<0:=by omega
   have n2 : ¬ 20<x.d:=by omega
   have n3 : ¬ x.j<0:=by omega
   have n4 : ¬ 10<x.j:=by omega
   rw[WQ,hx0,Bool.true_and]
   refine (?_:Z prX _=Z prX _) ▸ ih
   clear ih hdr
   simp only[Lnk.c,di] at *
   generalize (List.map _ ls).flatten=X at *
   generalize ls.length=m at *
   generalize x.d=xd at *
   generalize x.j=xj at *
   generalize x.l=xl at *
   generalize x.p=xp at *
   generalize k+1=k' at *
   symm
   conv=>lhs; rw[qap]
   simp -implicitDefEqProofs [qao,qb8,hd.l,hd.r,Wa,h2,c0,c1,w1,p1,p2,n1,n2,n3,n4,-qai]
   exact qaB (by simp[hd.l,hd.r,Wa])
  ·right
   have hx2:x.ok=false:=by simpa using hx0
   refine⟨by rw[WQ,hx2]; rfl,[.int x.d,.int x.j,.int x.l,.int x.p],qas (x.c),?_⟩
   have hx1:x.d<0\/20<x.d\/x.j<0\/10<x.j\/qd3 x.l=false\/qd3 x.p=false:=by
    by_cases q5:qd3 x.l=false
    ·simp[q5]
    by_cases q6:qd3 x.p=false
    ·simp[q6]
    simp only[Bool.not_eq_false] at q5 q6
    simp only[Lnk.ok,q5,q6,Bool.and_self,Bool.and_true,decide_eq_true_eq] at hx0
    omega
   clear hdr
   simp only[Lnk.c,di] at *
   generalize (List.map _ ls).flatten=X at *
   generalize ls.length=m at *
   generalize x.d=xd at *
   generalize x.j=xj at *
   generalize x.l=xl at *
   generalize x.p=xp at *
   rw[qap]
   by_cases n1:xd<0
   ·simp -implicitDefEqProofs [qao,qb8,hd.l,hd.r,Wa,h2,c0,c1,n1,-qai]
   by_cases n2:20<xd
   ·simp -implicitDefEqProofs [qao,qb8,hd.l,hd.r,Wa,h2,c0,c1,n1,n2,-qai]
   by_cases n3:xj<0
   ·simp -implicitDefEqProofs [qao,qb8,hd.l,hd.r,Wa,h2,c0,c1,n1,n2,n3,-qai]
   by_cases n4:10<xj
   ·simp -implicitDefEqProofs [qao,qb8,hd.l,hd.r,Wa,h2,c0,c1,n1,n2,n3,n4,-qai]
   by_cases n5:qd3 xl=false
   ·rw[n5] at p1
    simp -implicitDefEqProofs [qao,qb8,hd.l,hd.r,Wa,h2,c0,c1,n1,n2,n3,n4,p1,-qai]
   ·have n6:qd3 xp=false:=by simp[n1,n2,n3,n4,n5] at hx1; exact hx1
    simp only[Bool.not_eq_false] at n5
    rw[n5] at p1; rw[n6] at p2
    simp -implicitDefEqProofs [qao,qb8,hd.l,hd.r,Wa,h2,c0,c1,n1,n2,n3,n4,p1,p2,-qai]
end
end
end Go.Pm
