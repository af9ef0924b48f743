/- The abstract program's meaning without fuel: equations to reckon with. Reckoning with the abstract machine: what simp may unfold; rows of numbers. What a law is given, as abstract values; what it may leave behind. What a package variable holds, read off the datum that it is laid with. What a package variable holds, out of a list of several that are laid. Rows of numbers, places, wraps: what the walks of all chapters use. A law's arguments, as the abstract machine's values. A string, a byte, as arguments of a law. The abstract machine's program: short forms of its operations. The abstract machine's program, printed by a program of our own: group 01. -/
import Derived.Test.YtpakkndfjpimgaaGreatDoorPmR
import Derived.IntWalk
import Derived.DataReads
import Derived.Below
import Derived.OpenShut
import Derived.FnData
import Derived.LaidMore
import Derived.Test.YtpakkndfjpimgaaGreatDoorPmA
set_option linter.unusedSimpArgs false
set_option linter.unusedVariables false
section SY
namespace Go.Pm
def Le (C C':Task->Option Res):Prop := ∀ t r,C t=some r->C' t=some r
section
variable {C C':Task->Option Res}
theorem qaP (h:Le C C') {f:List V->S->Task} {args:List V} {σ : S} {r:V × S} (hr:qaQ C f args σ = some r):qaQ C' f args σ = some r:=by grind [qaQ,Le]
theorem qbS (h:Le C C') {f:List V->S->Task} {args:List V} {σ : S} {r:V × S} (hr:qbe C f args σ = some r):qbe C' f args σ = some r:=by grind [qbe,Le]
theorem qeF (h:Le C C') {fr:Fr} {σ : S} {op:O} {r:V × S} (hr:qaU C fr σ op=some r):qaU C' fr σ op=some r:=by
 cases op with
 | call f xs=>
  simp only[qaU] at hr ⊢
  split at hr
  ·exact qbS h hr
  ·cases hr
 | callv f xs=>
  simp only[qaU] at hr ⊢
  split at hr
  ·exact qbS h hr
  ·exact qbS h hr
  ·cases hr
 | invoke tbl x xs=>
  simp only[qaU] at hr ⊢
  split at hr
  ·grind [Le,qaU,qbS]
  ·cases hr
 | _=>exact hr
theorem qba (h:Le C C') {fr:Fr} {σ : S} {op:O} {r:V × S} (hr:qan C fr σ op=some r):qan C' fr σ op=some r:=by
 cases op with
 | call f xs=>
  simp only[qan] at hr ⊢
  split at hr
  ·exact qaP h hr
  ·cases hr
 | callv f xs=>
  simp only[qan] at hr ⊢
  split at hr
  ·exact qaP h hr
  ·exact qaP h hr
  ·exact qaP h hr
  ·cases hr
 | invoke tbl x xs=>
  simp only[qan] at hr ⊢
  split at hr
  ·grind [Le,qan,qaP]
  ·cases hr
 | _=>exact hr
theorem qcE (h:Le C C') : ∀ {is:List I} {fr:Fr} {σ : S} {r:Fr × S},qcl C is fr σ = some r->qcl C' is fr σ = some r
 | [],_,_,_,hr=>hr
 | i::is,fr,σ,r,hr=>by
  simp only[qcl] at hr ⊢
  split at hr
  ·rename_i hw
   split at hr
   ·rename_i v σ' hv
    simp only[qba h hv]
    exact qcE h hr
   ·cases hr
  ·exact qcE h hr
  ·cases hr
theorem qb9 (h:Le C C') {f:List V->S->Task} {args:List V} {σ : S} {r:V × S} (hr:qbe C f args σ = some r):qaQ C' f args σ = none:=by grind [qbe,qaQ,Le]
theorem qc8 (h:Le C C') {fr:Fr} {σ : S} {op:O} {r:V × S} (hr:qaU C fr σ op=some r):qan C' fr σ op=none:=by
 cases op with
 | call f xs=>
  simp only[qaU] at hr
  simp only[qan]
  split at hr
  ·exact qb9 h hr
  ·cases hr
 | callv f xs=>
  simp only[qaU] at hr
  simp only[qan]
  split at hr
  ·grind [Le,qaU,qan,qb9]
  ·grind [Le,qaU,qan,qb9]
  ·cases hr
 | invoke tbl x xs=>
  simp only[qaU] at hr
  simp only[qan]
  split at hr
  ·grind [Le,qaU,qan,qb9]
  ·cases hr
 | panic x=>rfl
 | _=>cases hr
theorem qbK (h:Le C C') : ∀ {is:List I} {fr:Fr} {σ : S} {r:V × Fr × S},qbj C is fr σ = some r->qbj C' is fr σ = some r/\qcl C' is fr σ = none
 | [],_,_,_,hr=>by simp[qbj] at hr
 | i::is,fr,σ,r,hr=>by
  simp only[qbj,qcl] at hr ⊢
  split at hr
  ·rename_i hw
   split at hr
   ·rename_i v σ' hv
    simp only[qba h hv]
    exact qbK h hr
   ·grind [Le,qbj,qcl,qc8,qeF]
  ·exact qbK h hr
  ·cases hr
theorem qbq (h:Le C C') : ∀ {is:List I} {q:Nat} {fr:Fr} {σ : S} {r:Nat × List Ev × V × S},qa8 C q is fr σ = some r->qa8 C' q is fr σ = some r/\qbt C' is fr σ = none
 | [],_,_,_,_,hr=>by simp[qa8] at hr
 | i::is,q,fr,σ,r,hr=>by
  simp only[qa8,qbt] at hr ⊢
  split at hr
  ·rename_i hw
   split at hr
   ·rename_i v σ' hv
    simp only[qba h hv]
    split at hr
    ·rename_i p l u σ'' hrest
     obtain⟨h1,h2⟩:=qbq h hrest
     simp only[h1,h2]
     exact⟨hr,trivial⟩
    ·cases hr
   ·grind [Le,qa8,qbt,qc8,qeF]
  ·split at hr
   ·rename_i p l u σ'' hrest
    obtain⟨h1,h2⟩:=qbq h hrest
    simp only[h1,h2]
    exact⟨hr,trivial⟩
   ·cases hr
  ·cases hr
theorem qbL (h:Le C C') : ∀ {is:List I} {fr:Fr} {σ : S} {r:List Ev × Fr × S},qbt C is fr σ = some r->qbt C' is fr σ = some r
 | [],_,_,_,hr=>hr
 | i::is,fr,σ,r,hr=>by
  simp only[qbt] at hr ⊢
  split at hr
  ·rename_i hw
   split at hr
   ·rename_i v σ' hv
    simp only[qba h hv]
    split at hr
    ·rename_i l fr' σ'' hrest
     simp only[qbL h hrest]; exact hr
    ·cases hr
   ·cases hr
  ·split at hr
   ·rename_i l fr' σ'' hrest
    simp only[qbL h hrest]; exact hr
   ·cases hr
  ·cases hr
theorem qb0 (h:Le C C') : ∀ {is:List I} {fr:Fr} {σ : S} {r:List (Fr × S)},qc1 C is fr σ = some r->qc1 C' is fr σ = some r
 | [],_,_,_,hr=>hr
 | i::is,fr,σ,r,hr=>by
  simp only[qc1] at hr ⊢
  split at hr
  ·rename_i hw
   split at hr
   ·rename_i v σ' hv
    simp only[qba h hv]
    split at hr
    ·rename_i l hrest
     simp only[qb0 h hrest]; exact hr
    ·cases hr
   ·cases hr
  ·split at hr
   ·rename_i l hrest
    simp only[qb0 h hrest]; exact hr
   ·cases hr
  ·cases hr
theorem qaB (h:Le C C') {k:Nat} : ∀ {pc:PC} {fr:Fr} {σ : S} {r:Ex × Fr × S},run C k pc fr σ = some r->run C' k pc fr σ = some r
 | .range f ps as bd,fr,σ,r,hr=>by grind [run,Le,qaP]
 | .skip,_,_,_,hr=>hr
 | .exit _,_,_,_,hr=>hr
 | .ret,_,_,_,hr=>hr
 | .region none ops keep _,fr,σ,r,hr=>by grind [run,Le,qcE,qbK]
 | .region (some rs) ops keep _,fr,σ,r,hr=>by grind [run,Le,qbL,qb0,qbq]
 | .seq a b,fr,σ,r,hr=>by
  simp only[run] at hr ⊢
  split at hr
  ·rename_i fr' σ' hx; simp only[qaB h hx]; exact qaB h hr
  ·rename_i hne
   have:=qaB h hr
   rw[this]
   obtain⟨e,fr',σ'⟩:=r
   cases e with
   | normal=>exact absurd hr (hne _ _)
   | exit id=>rfl
   | ret=>rfl
   | pan v=>rfl
 | .cond c a b,fr,σ,r,hr=>by
  simp only[run] at hr ⊢
  split at hr
  ·exact qaB h hr
  ·exact qaB h hr
  ·cases hr
 | .block id b,fr,σ,r,hr=>by
  simp only[run] at hr ⊢
  split at hr
  ·rename_i id' fr' σ' hx; simp only[qaB h hx]; exact hr
  ·rename_i hne
   have:=qaB h hr
   rw[this]
   obtain⟨e,fr',σ'⟩:=r
   cases e with
   | normal=>rfl
   | exit id=>exact absurd hr (hne _ _ _)
   | ret=>rfl
   | pan v=>rfl
 | .loop b,fr,σ,r,hr=>by grind [run,Le]
theorem qc9 (h:Le C C') {args:List V} {σ : S} {r:Res} (hr:qcd C args σ = some r):qcd C' args σ = some r:=by
 unfold qcd at hr ⊢
 split at hr
 ·split at hr
  ·split at hr
   ·rename_i hlp hc
    simp only[if_pos hc]
    split at hr
    ·rename_i fr1 σ1 hx
     simp only[qaB h hx]
     split at hr
     ·split at hr
      ·rename_i hlp1 hst
       simp only[hlp1,if_pos hst]
       split at hr
       ·cases hr
       ·rename_i e fr2 σ2 hnp hy
        simp only[qaB h hy]
        cases e with
        | pan v=>exact (hnp _ rfl).elim
        | normal=>exact hr
        | exit id=>exact hr
        | ret=>exact hr
       ·cases hr
      ·cases hr
     ·cases hr
    ·cases hr
   ·cases hr
  ·cases hr
 ·cases hr
theorem qbb (h:Le C C') : ∀ {l:List V} {σ : S} {r:S},qaH C l σ = some r->qaH C' l σ = some r
 | [],σ,r,hr=>hr
 | v::l,σ,r,hr=>by
  unfold qaH at hr ⊢
  split at hr
  ·rename_i e; cases e
  ·rename_i id a r' e
   cases e
   split at hr
   ·rename_i v' σ' hc
    simp only[qaP h hc]
    exact qbb h hr
   ·cases hr
  ·cases hr
theorem qeG (h:Le C C') {pf:PFun} {k:Nat} {fr:Fr} {σ : S} {r:Res} (hr:qdi C pf k fr σ = some r):qdi C' pf k fr σ = some r:=by grind [qdi,Le,qbb]
theorem qd9 (h:Le C C') {pf:PFun} {k:Nat} {v:V} {fr:Fr} {σ : S} {r:Res} (hr:qcU C pf k v fr σ = some r):qcU C' pf k v fr σ = some r:=by
 unfold qcU at hr ⊢
 split at hr
 ·exact hr
 ·grind [Le,qcU,qaP,qbb]
 ·cases hr
theorem qda (h:Le C C') {pf:PFun} {args:List V} {σ : S} {r:Res} (hr:qa7 C pf args σ = some r):qa7 C' pf args σ = some r:=by grind [qdi,qbB,qa7,Le,qeG,qaB,qd9]
theorem qcR (h:Le C C') {pf:PFun} {args:List V} {σ : S} {r:Res} (hr:qaS C pf args σ = some r):qaS C' pf args σ = some r:=by
 unfold qaS at hr ⊢
 split at hr
 ·grind [Le,qaS,qaB]
 ·cases hr
end
variable {prog:Nat->Option PFun}
theorem qfE : ∀ n,Le (qa9 prog n) (qa9 prog (n+1))
 | 0=>fun t r h=>by simp[qa9] at h
 | n+1=>fun t r h=>by
  have ih:=qfE n
  cases t with
  | call f args σ=>
   simp only[qa9] at h ⊢
   split at h
   ·grind [Le,qa9,qda]
   ·cases h
  | dcall f args σ=>
   simp only[qa9] at h ⊢
   split at h
   ·exact qcR ih h
   ·cases h
  | round args σ=>
   simp only[qa9] at h ⊢
   exact qc9 ih h
  | loop k b fr σ=>
   simp only[qa9] at h ⊢
   split at h
   ·grind [Le,qa9,qaB]
   ·cases h
theorem qax {m n:Nat} (h:m<=n):Le (qa9 prog m) (qa9 prog n):=by
 induction n with
 | zero => have:m=0:=by omega
           subst this; exact fun _ _ h=>h
 | succ n ih=>
  rcases Nat.lt_or_ge n m with h' | h'
  ·grind [Le,qa9]
  ·exact fun t r ht=>qfE n t r (ih h' t r ht)
open Classical in
noncomputable def Z (prog:Nat->Option PFun) (t:Task):Option Res:=if h : ∃ n r,qa9 prog n t=some r then qa9 prog (Classical.choose h) t else none
theorem Z_iff {t:Task} {r:Res}:Z prog t=some r ↔ ∃ n,qa9 prog n t=some r:=by
 classical
 unfold Z
 constructor
 ·intro h
  split at h
  ·exact⟨_,h⟩
  ·cases h
 ·rintro ⟨n,hn⟩
  have hex : ∃ n r,qa9 prog n t=some r:=⟨n,r,hn⟩
  rw[dif_pos hex]
  obtain⟨r',hr'⟩:=Classical.choose_spec hex
  have h1:=qax (prog:=prog) (Nat.le_max_left n (Classical.choose hex)) t r hn
  have h2:=qax (prog:=prog) (Nat.le_max_right n (Classical.choose hex)) t r' hr'
  rw[h1] at h2
  rw[hr',h2]
theorem qe7 {n:Nat} {t:Task} {r:Res} (h:qa9 prog n t=some r):Z prog t=some r:=Z_iff.2 ⟨n,h⟩
theorem qbr {f:List V->S->Task} {args:List V} {σ : S} {r:V × S} (hr:qaQ (Z prog) f args σ = some r) : ∃ n,qaQ (qa9 prog n) f args σ = some r:=by
 unfold qaQ at hr ⊢
 simp only at hr ⊢
 split at hr
 ·split at hr
  ·cases hr
  ·rename_i v s' hnp hc
   obtain⟨n,hn⟩:=Z_iff.1 hc
   exact⟨n,by simp only[hn]; exact hr⟩
  ·cases hr
 ·cases hr
theorem qcF {f:List V->S->Task} {args:List V} {σ : S} {r:V × S} (hr:qbe (Z prog) f args σ = some r) : ∃ n,qbe (qa9 prog n) f args σ = some r:=by
 unfold qbe at hr ⊢
 simp only at hr ⊢
 split at hr
 ·split at hr
  ·rename_i v s' hc
   obtain⟨n,hn⟩:=Z_iff.1 hc
   exact⟨n,by simp only[hn]; exact hr⟩
  ·cases hr
 ·cases hr
theorem qgC {fr:Fr} {σ : S} {op:O} {r:V × S} (hr:qaU (Z prog) fr σ op=some r) : ∃ n,qaU (qa9 prog n) fr σ op=some r:=by
 cases op with
 | call f xs=>
  simp only[qaU] at hr ⊢
  split at hr
  ·exact qcF hr
  ·cases hr
 | callv f xs=>
  simp only[qaU] at hr ⊢
  split at hr
  ·exact qcF hr
  ·exact qcF hr
  ·cases hr
 | invoke tbl x xs=>
  simp only[qaU] at hr ⊢
  split at hr
  ·split at hr
   ·exact qcF hr
   ·cases hr
  ·cases hr
 | _=>exact⟨0,hr⟩
theorem qea {fr:Fr} {σ : S} {op:O} {r:V × S} (hr:qan (Z prog) fr σ op=some r) : ∃ n,qan (qa9 prog n) fr σ op=some r:=by
 cases op with
 | call f xs=>
  simp only[qan] at hr ⊢
  split at hr
  ·exact qbr hr
  ·cases hr
 | callv f xs=>
  simp only[qan] at hr ⊢
  split at hr
  ·exact qbr hr
  ·exact qbr hr
  ·exact qbr hr
  ·cases hr
 | invoke tbl x xs=>
  simp only[qan] at hr ⊢
  split at hr
  ·split at hr
   ·exact qbr hr
   ·cases hr
  ·cases hr
 | _=>exact⟨0,hr⟩
theorem qe8 : ∀ {is:List I} {fr:Fr} {σ : S} {r:Fr × S},qcl (Z prog) is fr σ = some r -> ∃ n,qcl (qa9 prog n) is fr σ = some r
 | [],_,_,_,hr=>⟨0,hr⟩
 | i::is,fr,σ,r,hr=>by
  simp only[qcl] at hr ⊢
  split at hr
  ·rename_i hw
   split at hr
   ·rename_i v σ' hv
    obtain⟨n,hn⟩:=qea hv
    obtain⟨m,hm⟩:=qe8 hr
    refine⟨max n m,?_⟩
    simp only[qba (qax (Nat.le_max_left n m)) hn]
    exact qcE (qax (Nat.le_max_right n m)) hm
   ·cases hr
  ·exact qe8 hr
  ·cases hr
theorem qeb : ∀ {is:List I} {fr:Fr} {σ : S} {r:List Ev × Fr × S},qbt (Z prog) is fr σ = some r -> ∃ n,qbt (qa9 prog n) is fr σ = some r
 | [],_,_,_,hr=>⟨0,hr⟩
 | i::is,fr,σ,r,hr=>by
  simp only[qbt] at hr ⊢
  split at hr
  ·rename_i hw
   split at hr
   ·rename_i v σ' hv
    obtain⟨n,hn⟩:=qea hv
    split at hr
    ·rename_i l fr' σ'' hrest
     obtain⟨m,hm⟩:=qeb hrest
     refine⟨max n m,?_⟩
     simp only[qba (qax (Nat.le_max_left n m)) hn,qbL (qax (Nat.le_max_right n m)) hm]
     exact hr
    ·cases hr
   ·cases hr
  ·split at hr
   ·rename_i l fr' σ'' hrest
    obtain⟨m,hm⟩:=qeb hrest
    exact⟨m,by simp only[hm]; exact hr⟩
   ·cases hr
  ·cases hr
theorem qe9 : ∀ {is:List I} {fr:Fr} {σ : S} {r:List (Fr × S)},qc1 (Z prog) is fr σ = some r -> ∃ n,qc1 (qa9 prog n) is fr σ = some r
 | [],_,_,_,hr=>⟨0,hr⟩
 | i::is,fr,σ,r,hr=>by
  simp only[qc1] at hr ⊢
  split at hr
  ·rename_i hw
   split at hr
   ·rename_i v σ' hv
    obtain⟨n,hn⟩:=qea hv
    split at hr
    ·rename_i l hrest
     obtain⟨m,hm⟩:=qe9 hrest
     refine⟨max n m,?_⟩
     simp only[qba (qax (Nat.le_max_left n m)) hn,qb0 (qax (Nat.le_max_right n m)) hm]
     exact hr
    ·cases hr
   ·cases hr
  ·split at hr
   ·rename_i l hrest
    obtain⟨m,hm⟩:=qe9 hrest
    exact⟨m,by simp only[hm]; exact hr⟩
   ·cases hr
  ·cases hr
theorem qec : ∀ {is:List I} {fr:Fr} {σ : S} {r:V × Fr × S},qbj (Z prog) is fr σ = some r -> ∃ n,qbj (qa9 prog n) is fr σ = some r
 | [],_,_,_,hr=>by simp[qbj] at hr
 | i::is,fr,σ,r,hr=>by
  simp only[qbj] at hr ⊢
  split at hr
  ·rename_i hw
   split at hr
   ·rename_i v σ' hv
    obtain⟨n,hn⟩:=qea hv
    obtain⟨m,hm⟩:=qec hr
    refine⟨max n m,?_⟩
    simp only[qba (qax (Nat.le_max_left n m)) hn]
    exact (qbK (qax (Nat.le_max_right n m)) hm).1
   ·split at hr
    ·rename_i v σ' hv
     obtain⟨n,hn⟩:=qgC hv
     exact⟨n,by simp only[qc8 (fun _ _ h=>h) hn,hn]; exact hr⟩
    ·cases hr
  ·exact qec hr
  ·cases hr
theorem qdu : ∀ {is:List I} {q:Nat} {fr:Fr} {σ : S} {r:Nat × List Ev × V × S},qa8 (Z prog) q is fr σ = some r -> ∃ n,qa8 (qa9 prog n) q is fr σ = some r
 | [],_,_,_,_,hr=>by simp[qa8] at hr
 | i::is,q,fr,σ,r,hr=>by
  simp only[qa8] at hr ⊢
  split at hr
  ·rename_i hw
   split at hr
   ·rename_i v σ' hv
    obtain⟨n,hn⟩:=qea hv
    split at hr
    ·rename_i p l u σ'' hrest
     obtain⟨m,hm⟩:=qdu hrest
     refine⟨max n m,?_⟩
     simp only[qba (qax (Nat.le_max_left n m)) hn,(qbq (qax (Nat.le_max_right n m)) hm).1]
     exact hr
    ·cases hr
   ·split at hr
    ·rename_i v σ' hv
     obtain⟨n,hn⟩:=qgC hv
     exact⟨n,by simp only[qc8 (fun _ _ h=>h) hn,hn]; exact hr⟩
    ·cases hr
  ·split at hr
   ·rename_i p l u σ'' hrest
    obtain⟨m,hm⟩:=qdu hrest
    exact⟨m,by simp only[hm]; exact hr⟩
   ·cases hr
  ·cases hr
theorem qcj {k:Nat} : ∀ {pc:PC} {fr:Fr} {σ : S} {r:Ex × Fr × S},run (Z prog) k pc fr σ = some r -> ∃ n,run (qa9 prog n) k pc fr σ = some r
 | .range f ps as bd,fr,σ,r,hr=>by grind [run,Z,qa9,qbr]
 | .skip,_,_,_,hr=>⟨0,hr⟩
 | .exit _,_,_,_,hr=>⟨0,hr⟩
 | .ret,_,_,_,hr=>⟨0,hr⟩
 | .region none ops keep _,fr,σ,r,hr=>by
  simp only[run] at hr ⊢
  split at hr
  ·grind [run,Z,qa9,qe8]
  ·split at hr
   ·rename_i v fr' σ' hx
    obtain⟨n,hn⟩:=qec hx
    exact⟨n,by simp only[hn,(qbK (fun _ _ h=>h) hn).2]; exact hr⟩
   ·cases hr
 | .region (some rs) ops keep _,fr,σ,r,hr=>by
  simp only[run] at hr ⊢
  split at hr
  ·rename_i es fr' σ' hx
   obtain⟨n,hn⟩:=qeb hx
   split at hr
   ·grind
   ·rename_i hc
    split at hr
    ·rename_i ss ht
     obtain⟨m,hm⟩:=qe9 ht
     refine⟨max n m,?_⟩
     simp only[qbL (qax (Nat.le_max_left n m)) hn,qb0 (qax (Nat.le_max_right n m)) hm]
     rw[if_neg hc]; exact hr
    ·cases hr
  ·split at hr
   ·rename_i p es v σ' hx
    obtain⟨n,hn⟩:=qdu hx
    exact⟨n,by simp only[hn,(qbq (fun _ _ h=>h) hn).2]; exact hr⟩
   ·cases hr
 | .seq a b,fr,σ,r,hr=>by
  simp only[run] at hr ⊢
  split at hr
  ·rename_i fr' σ' hx
   obtain⟨n,hn⟩:=qcj hx
   obtain⟨m,hm⟩:=qcj hr
   refine⟨max n m,?_⟩
   simp only[qaB (qax (Nat.le_max_left n m)) hn]
   exact qaB (qax (Nat.le_max_right n m)) hm
  ·rename_i hne
   obtain⟨n,hn⟩:=qcj hr
   refine⟨n,?_⟩
   rw[hn]
   obtain⟨e,fr',σ'⟩:=r
   cases e with
   | normal=>exact absurd hr (hne _ _)
   | exit id=>rfl
   | ret=>rfl
   | pan v=>rfl
 | .cond c a b,fr,σ,r,hr=>by
  simp only[run] at hr ⊢
  split at hr
  ·exact qcj hr
  ·exact qcj hr
  ·cases hr
 | .block id b,fr,σ,r,hr=>by
  simp only[run] at hr ⊢
  split at hr
  ·rename_i id' fr' σ' hx
   obtain⟨n,hn⟩:=qcj hx
   exact⟨n,by simp only[hn]; exact hr⟩
  ·rename_i hne
   obtain⟨n,hn⟩:=qcj hr
   refine⟨n,?_⟩
   rw[hn]
   obtain⟨e,fr',σ'⟩:=r
   cases e with
   | normal=>rfl
   | exit id=>exact absurd hr (hne _ _ _)
   | ret=>rfl
   | pan v=>rfl
 | .loop b,fr,σ,r,hr=>by
  simp only[run] at hr ⊢
  split at hr
  ·rename_i e fr' σ' hx
   obtain⟨n,hn⟩:=Z_iff.1 hx
   exact⟨n,by simp only[hn]; exact hr⟩
  ·cases hr
theorem qco : ∀ {l:List V} {σ : S} {r:S},qaH (Z prog) l σ = some r -> ∃ n,qaH (qa9 prog n) l σ = some r
 | [],σ,r,hr=>⟨0,hr⟩
 | v::l,σ,r,hr=>by
  unfold qaH at hr ⊢
  split at hr
  ·rename_i e; cases e
  ·rename_i id a r' e
   cases e
   split at hr
   ·rename_i v' σ' hc
    obtain⟨n,hn⟩:=qbr hc
    obtain⟨m,hm⟩:=qco hr
    refine⟨max n m,?_⟩
    simp only[qaP (qax (Nat.le_max_left n m)) hn]
    exact qbb (qax (Nat.le_max_right n m)) hm
   ·cases hr
  ·cases hr
theorem qgD {pf:PFun} {k:Nat} {fr:Fr} {σ : S} {r:Res} (hr:(if pf.df then qdi (Z prog) pf k fr σ else qbB pf k fr σ)=some r) : ∃ n,(if pf.df then qdi (qa9 prog n) pf k fr σ else qbB pf k fr σ)=some r:=by
 split at hr
 ·grind [qdi,Z,qbB,qa9,qco]
 ·rename_i hd
  simp only[if_neg hd]
  exact⟨0,hr⟩
theorem qhx {pf:PFun} {k:Nat} {v:V} {fr:Fr} {σ : S} {r:Res} (hr:qcU (Z prog) pf k v fr σ = some r) : ∃ n,qcU (qa9 prog n) pf k v fr σ = some r:=by
 unfold qcU at hr ⊢
 split at hr
 ·exact⟨0,hr⟩
 ·split at hr
  ·cases hr
  ·rename_i hn
   simp only[if_neg hn]
   split at hr
   ·rename_i v' σ' hc
    obtain⟨n,hn⟩:=qbr hc
    split at hr
    ·rename_i σ'' hx
     obtain⟨m,hm⟩:=qco hx
     refine⟨max n m,?_⟩
     simp only[qaP (qax (Nat.le_max_left n m)) hn,qbb (qax (Nat.le_max_right n m)) hm]
     exact hr
    ·cases hr
   ·cases hr
 ·cases hr
theorem qgc {pf:PFun} {args:List V} {σ : S} {r:Res} (h:qa7 (Z prog) pf args σ = some r) : ∃ n,qa7 (qa9 prog n) pf args σ = some r:=by
 have lv : ∀ {n m k fr σ},(if pf.df then qdi (qa9 prog m) pf k fr σ else qbB pf k fr σ)=some r->m<=n->(if pf.df then qdi (qa9 prog n) pf k fr σ else qbB pf k fr σ)=some r:=fun hr hle=>by
  split at hr
  ·rename_i hd; rw[if_pos hd]; exact qeG (qax hle) hr
  ·rename_i hd; rw[if_neg hd]; exact hr
 unfold qa7 at h ⊢
 split at h
 ·rename_i hl
  simp only[if_pos hl]
  split at h
  ·rename_i fr σ' hx
   obtain⟨n,hn⟩:=qcj hx
   obtain⟨m,hm⟩:=qgD h
   refine⟨max n m,?_⟩
   simp only[qaB (qax (Nat.le_max_left n m)) hn]
   exact lv hm (Nat.le_max_right n m)
  ·rename_i fr σ' hx
   obtain⟨n,hn⟩:=qcj hx
   obtain⟨m,hm⟩:=qgD h
   refine⟨max n m,?_⟩
   simp only[qaB (qax (Nat.le_max_left n m)) hn]
   exact lv hm (Nat.le_max_right n m)
  ·rename_i v fr σ' hx
   obtain⟨n,hn⟩:=qcj hx
   obtain⟨m,hm⟩:=qhx h
   refine⟨max n m,?_⟩
   simp only[qaB (qax (Nat.le_max_left n m)) hn]
   exact qd9 (qax (Nat.le_max_right n m)) hm
  ·cases h
 ·cases h
theorem qaZ {f:Nat} {pf:PFun} {args:List V} {σ : S} {r:Res} (hf:prog f=some pf) (hc:pf.catches=false) (h:qa7 (Z prog) pf args σ = some r):Z prog (.call f args σ)=some r:=by
 obtain⟨n,hn⟩:=qgc h
 exact qe7 (n:=n+1) (by simp only[qa9,hf,hc,Bool.false_eq_true,if_false,hn])
theorem qgd {k:Nat} {b:PC} {fr fr0 fr':Fr} {σ σ0 σ':S} {r:Res} (hg:gcF k fr σ = some (fr0,σ0)) (h:run (Z prog) k b fr0 σ0=some (.normal,fr',σ')) (hr:Z prog (.loop k b fr' σ')=some r):Z prog (.loop k b fr σ)=some r:=by
 obtain⟨n,hn⟩:=qcj h
 obtain⟨m,hm⟩:=Z_iff.1 hr
 refine qe7 (n:=max n m+1) ?_
 simp only[qa9,hg,qaB (qax (Nat.le_max_left n m)) hn]
 exact qax (Nat.le_max_right n m) _ _ hm
theorem qg4 {k:Nat} {b:PC} {fr fr0 fr':Fr} {σ σ0 σ':S} {e:Ex} (he:e ≠ .normal) (hg:gcF k fr σ = some (fr0,σ0)) (h:run (Z prog) k b fr0 σ0=some (e,fr',σ')):Z prog (.loop k b fr σ)=some (.out e fr' σ'):=by
 obtain⟨n,hn⟩:=qcj h
 refine qe7 (n:=n+1) ?_
 simp only[qa9,hg,hn]
 all_goals (cases e with
  | normal=>exact absurd rfl he
  | exit id=>rfl
  | ret=>rfl
  | pan v=>rfl)
variable {P:Program} {ids:Ids} {fid:Fid}
def qhy (w:World):Nat->Nat:=fun b=>match w.heap[b]? with
 | some (.cells arr _ _)=>arr.size
 | _=>0
def qcX (w:World):Ctx:=⟨[],fun _=>none,qhy w,w⟩
def GlbAt (fid:Fid) (w:World):Prop := ∀ g cs,fid.gl g=some cs -> ∃ vs,RepDs (qhy w) w cs vs/\Row (qhy w) w g 0 vs
theorem qg5 {w:World} (hg:GlbAt fid w):Real fid (qcX w):=by
 refine⟨fun l ob b h=>by simp[qcX] at h,fun l b h=>by simp[qcX] at h,fun l l' b h=>by simp[qcX] at h,fun b hb=>?_,hg⟩
 simp only[qcX,qhy] at hb ⊢
 cases h:w.heap[b]? with
 | none=>rw[h] at hb; simp at hb
 | some o=>
  rw[h] at hb
  cases o<;>simp only at hb<;>first | (exact absurd hb (Nat.lt_irrefl _)) | exact⟨_,_,_,rfl,Nat.le_refl _⟩
theorem calls_of_Z (hid:Ties P ids fid) (hcr:Codes P ids fid) (hm:P.follows .mixedOrders=true) (ht:Tied P ids fid prog) {f:Nat} {args:List V} {xs:List Value} {d:Value} {σ':S} {w:World} (h:Z prog (.call f args [])=some (.ret (.dat (.lit d)) σ')) (hg:GlbAt fid w)
  (ha:Reps fid (qcX w) args xs):Calls P (fid f) xs.toArray w fun e w'=>e = .returned d/\w'.os=w.os/\w'.tape=w.tape/\w'.output=w.output/\w.heap.size<=w'.heap.size /\ ∀ k,k<w.heap.size->w'.heap[k]?=w.heap[k]?:=by
 obtain⟨n,hn⟩:=Z_iff.1 h
 obtain⟨_,hs⟩:=(qeK hid hcr hm ht n).1.call _ _ _ _ _ hn
 refine (callsIn_wide.1 (hs (qcX w) xs rfl (qg5 hg) ha)).mono ?_
 rintro e w' ⟨Γ',rfl,_,_,h3,hout⟩
 rcases hout with ⟨x,rfl,h4⟩ | ⟨u,x,hu,_⟩
 rotate_left
 ·cases hu
 refine⟨by rw[(qak h4).1],h3.ext.os,h3.ext.tape,h3.ext.output,h3.ext.size,fun k hk=>(h3.frm.same k hk fun l h=>by simp[qcX] at h).1⟩
end Go.Pm
namespace Go.Pm
variable {prog:Nat->Option PFun}
theorem qjq {α : Type} {a b:Option α} (h : ∀ r,a=some r->b=some r) (k : ∀ r,b=some r->a=some r):a=b:=by
 cases a with
 | some r=>exact (h r rfl).symm
 | none=>cases b with
  | none=>rfl
  | some r=>exact k r rfl
theorem qkr {n:Nat}:Le (qa9 prog n) (Z prog):=fun _ _ h=>qe7 h
def qai (C:Task->Option Res) (k:Nat) (b:PC):Option (Fr × S)->Option Res
 | some (fr0,σ0)=>match run C k b fr0 σ0 with
  | some (.normal,fr',σ')=>C (.loop k b fr' σ')
  | some (e,fr',σ')=>some (.out e fr' σ')
  | none=>none
 | none=>none
theorem qah (k:Nat) (b:PC) (fr:Fr) (σ : S):Z prog (.loop k b fr σ)=qai (Z prog) k b (gcF k fr σ):=by
 refine qjq (fun r h=>?_) (fun r h=>?_)
 ·obtain⟨n,hn⟩:=Z_iff.1 h
  cases n with
  | zero=>simp[qa9] at hn
  | succ n=>
   simp only[qa9] at hn
   split at hn
   ·grind [qai,Z,gcF,qaB,qkr,qe7]
   ·cases hn
 ·grind [qai,Z,gcF,qgd,qg4]
theorem qgE {prog prog':Nat->Option PFun} (hs : ∀ f pf,prog f=some pf->prog' f=some pf) : ∀ n,Le (qa9 prog n) (qa9 prog' n)
 | 0=>fun t r h=>by simp[qa9] at h
 | n+1=>fun t r h=>by
  have ih:=qgE hs n
  cases t with
  | call f args σ=>
   simp only[qa9] at h ⊢
   split at h
   ·grind [Le,qa9,qda]
   ·cases h
  | dcall f args σ=>
   simp only[qa9] at h ⊢
   split at h
   ·grind [Le,qa9,qcR]
   ·cases h
  | round args σ=>
   simp only[qa9] at h ⊢
   exact qc9 ih h
  | loop k b fr σ=>
   simp only[qa9] at h ⊢
   split at h
   ·grind [Le,qa9,qaB]
   ·cases h
theorem qip {prog prog':Nat->Option PFun} (hs : ∀ f pf,prog f=some pf->prog' f=some pf) {t:Task} {r:Res} (h:Z prog t=some r):Z prog' t=some r:=by
 obtain⟨n,hn⟩:=Z_iff.1 h
 exact qe7 (qgE hs n _ _ hn)
end Go.Pm
end SY
section SS
namespace Go.Pm
attribute [simp] qkR qlL qhb qcn qhp qhH qhI qeA outV qgM qil qb1 finishV Ob.rows qkS qi8 appendO appendT qiw qfg V.isStr qg9 qdg qdi qcU qaH Fr.defs qaU qbj qdf undef qa7 qaK run qcl qbt qan qat X.ev evs qbM qc0 Fr.get Fr.put Fr.keep qfR unV qiu qbB qi9 qg7 qeL V.sealT V.sealv qaL qeM reach qam V.locs qfO inL qfP qbD V.ren one
 gcL gcF qbi qgj Ob.locs Ob.ren qff qkg idx back qap qaQ qa6 qaJ qix qfh qbH qbN qcs qeg qbs storeV qbk qkh Value.oneCell' qaR V.aggCells qbV qck
@[simp] theorem qlV (v:Value):V.one (.dat (.lit v))=v.oneCell':=rfl
@[simp] theorem qkF (v:Value):V.cells (.dat (.lit v))=[(.dat (.lit v))]:=rfl
@[simp] theorem qmk (cs:List D) (n:Nat) (f:Bool):V.one (.dat (.sl cs n f))=true:=rfl
@[simp] theorem qlB (cs:List D) (n:Nat) (f:Bool):V.cells (.dat (.sl cs n f))=[(.dat (.sl cs n f))]:=rfl
@[simp] theorem qlW (cs:List D) (o:Nat):V.one (.dat (.imm cs o))=true:=rfl
@[simp] theorem qkG (cs:List D) (o:Nat):V.cells (.dat (.imm cs o))=[(.dat (.imm cs o))]:=rfl
@[simp] theorem qlC (cs:List D):V.one (.dat (.agg cs))=false:=rfl
@[simp] theorem qkd (cs:List D):V.cells (.dat (.agg cs))=cs.map .dat:=rfl
@[simp] theorem qke (t:Nat) (d:D):V.one (.dat (.iface t d))=true:=rfl
@[simp] theorem qi5 (t:Nat) (d:D):V.cells (.dat (.iface t d))=[(.dat (.iface t d))]:=rfl
@[simp] theorem qlX (l o:Nat):V.one (.ptr l o)=true:=rfl
@[simp] theorem qkH (l o:Nat):V.cells (.ptr l o)=[(.ptr l o)]:=rfl
@[simp] theorem qlY (cs:List D) (n sz l:Nat):V.one (.gsl cs n sz l)=true:=rfl
@[simp] theorem qkI (cs:List D) (n sz l:Nat):V.cells (.gsl cs n sz l)=[(.gsl cs n sz l)]:=rfl
@[simp] theorem qlZ (l o n cap sz:Nat):V.one (.msl l o n cap sz)=true:=rfl
@[simp] theorem qkJ (l o n cap sz:Nat):V.cells (.msl l o n cap sz)=[(.msl l o n cap sz)]:=rfl
@[simp] theorem ql0 (l n sz:Nat):V.one (.own l n sz)=true:=rfl
@[simp] theorem qkK (l n sz:Nat):V.cells (.own l n sz)=[(.own l n sz)]:=rfl
@[simp] theorem qlD (l n o:Nat):V.one (.eptr l n o)=true:=rfl
@[simp] theorem qkf (l n o:Nat):V.cells (.eptr l n o)=[(.eptr l n o)]:=rfl
@[simp] theorem qml (g:Nat) (v:V):V.one (.bm g v)=true:=rfl
@[simp] theorem qlE (g:Nat) (v:V):V.cells (.bm g v)=[(.bm g v)]:=rfl
@[simp] theorem ql1 (cs:List V):V.one (.agg cs)=false:=rfl
@[simp] theorem qkL (cs:List V):V.cells (.agg cs)=cs:=rfl
@[simp] theorem qmm (f:Nat) (a b:List V):V.one (.fn f a b)=true:=rfl
@[simp] theorem qlF (f:Nat) (a b:List V):V.cells (.fn f a b)=[(.fn f a b)]:=rfl
@[simp] theorem qmn (l:Nat):V.one (.mp l)=true:=rfl
@[simp] theorem qlG (l:Nat):V.cells (.mp l)=[(.mp l)]:=rfl
@[simp] theorem qkM (t:Nat) (v:V):V.one (.iface t v)=true:=rfl
@[simp] theorem qjv (t:Nat) (v:V):V.cells (.iface t v)=[(.iface t v)]:=rfl
@[simp] theorem ql2 (vs:List V):V.one (.tup vs)=false:=rfl
@[simp] theorem qkN (vs:List V):V.cells (.tup vs)=[(.tup vs)]:=rfl
@[simp] theorem ql3 (l:Nat):V.one (.yld l)=true:=rfl
@[simp] theorem qkO (l:Nat):V.cells (.yld l)=[(.yld l)]:=rfl
@[simp] theorem qlH {α : Type} (cs:List α):qaj cs 0 0=some []:=by simp[qaj]
@[simp] theorem qlI {α : Type} (c : α) (cs:List α) (n:Nat):qaj (c::cs) 0 (n+1)=(qaj cs 0 n).map (c :: ·):=by grind [qaj]
@[simp] theorem qlJ {α : Type} (c : α) (cs:List α) (o n:Nat):qaj (c::cs) (o+1) n=qaj cs o n:=by
 simp only[qaj,List.drop_succ_cons]
@[simp] theorem ql4 (a b:Int):eqI a b=decide (a=b):=rfl
abbrev I64 (n:Int):Prop := -9223372036854775808<=n/\n<=9223372036854775807
theorem qav (n:Int) (h : -9223372036854775808<=n/\n<=9223372036854775807):IntKind.i64.wrap n=n:=by rw[IntKind.wrap_i64]; omega
def intsC (xs:List Int):List D:=xs.map fun x => .lit (.int .i64 x)
def qhD:List Int->D
 | [] => .lit (.slice none 0 0)
 | x::xs => .sl (intsC (x::xs)) (x::xs).length false
@[simp] theorem qkP (σ : S) (xs:List Int):V.len σ .sl (.dat (qhD xs))=some xs.length:=by
 cases xs<;>simp[qhD,V.len]
@[simp] theorem qkQ (xs:List Int):V.one (.dat (qhD xs))=true:=by cases xs<;>rfl
@[simp] theorem qjw (xs:List Int):V.cells (.dat (qhD xs))=[.dat (qhD xs)]:=by cases xs<;>rfl
end Go.Pm
end SS
section SW
namespace Go.Pm
def RowV (v:D) (xs:List Int):Prop:=
 (∃ o,v = .lit (.slice o 0 0)/\xs=[])\/v = .sl (intsC xs) xs.length false
theorem RowV.one {v:D} {xs:List Int} (h:RowV v xs):V.one (.dat v)=true:=by rcases h with ⟨o,rfl,rfl⟩ | rfl<;>rfl
theorem RowV.cells {v:D} {xs:List Int} (h:RowV v xs):V.cells (.dat v)=[.dat v]:=by rcases h with ⟨o,rfl,rfl⟩ | rfl<;>rfl
theorem qfV (F:Nat->Nat) (w:World) : ∀ xs:List Int,RepDs F w (intsC xs) (xs.map (.int .i64))
 | []=>rfl
 | x::xs=>⟨_,_,rfl,⟨rfl,rfl⟩,qfV F w xs⟩
theorem row_rep (fid:Fid) {w:World} {a:Option Addr} {len cap:Nat} {zs:List Int}
  (h:(a=none/\len=0/\cap=0/\zs=[]) \/ ∃ x,a=some x/\len<=cap/\cap<=maxLen/\zs.length=cap/\(∀ i,i<zs.length->w.cell? (x.add i)=some (.int .i64 (zs.getD i 0))) /\ ∀ n∈zs,(Lit.int .i64 n).wf=true) :
  ∃ d,RowV d (zs.take len)/\(∀ x∈zs.take len,I64 x)/\Rep fid (qcX w) (.dat d) (.slice a len cap):=by
 rcases h with ⟨rfl,rfl,rfl,rfl⟩ | ⟨x,rfl,h1,h2,h3,h4,h5⟩
 ·exact⟨.lit (.slice none 0 0),.inl ⟨_,rfl,rfl⟩,by simp,rfl,rfl⟩
 by_cases hc:cap=0
 ·subst hc
  have:len=0:=by omega
  subst this
  exact⟨.lit (.slice (some x) 0 0),.inl ⟨_,rfl,by simp⟩,by simp,rfl,rfl⟩
 have hl:(zs.take len).length=len:=by rw[List.length_take]; omega
 have hs:x.spot=none:=World.cell?_spot (v := .int .i64 (zs.getD 0 0)) (by simpa [Addr.add] using h4 0 (by omega))
 obtain⟨b,o,sp⟩:=x
 simp only at hs
 subst hs
 have hcell : ∀ i,i<zs.length->w.cell? ⟨b,o+i,none⟩=some (.int .i64 (zs.getD i 0)):=fun i hi=>by
  have:=h4 i hi
  by_cases h0:i=0
  ·subst h0; simpa [Addr.add] using this
  ·simpa [Addr.add,h0] using this
 refine⟨.sl (intsC (zs.take len)) len false,.inr (by rw[hl]),fun n hn=>?_,b,o,cap,(zs.take len).map (.int .i64),rfl,h1,by simp,qfV _ _ _,?_,?_,?_⟩
 ·have:=h5 n (List.mem_of_mem_take hn)
  simp only[Lit.wf,Bool.and_eq_true,decide_eq_true_eq] at this
  have e1:IntKind.i64.min = -9223372036854775808:=by decide
  have e2:IntKind.i64.max=9223372036854775807:=by decide
  unfold I64
  omega
 ·intro i v hv
  rw[List.getElem?_map,List.getElem?_take] at hv
  split at hv
  ·rename_i hi
   rw[List.getElem?_eq_getElem (by omega)] at hv
   simp only[Option.map_some,Option.some.injEq] at hv
   subst hv
   rw[show (qcX w).w=w from rfl,hcell i (by omega)]
   simp[List.getD_eq_getElem?_getD,show i<zs.length by omega]
  ·simp at hv
 ·intro hp
  simp only[List.length_map,hl] at hp ⊢
  have:=hcell (len-1) (by omega)
  unfold World.cell? at this
  simp only[qcX,qhy]
  split at this
  ·rename_i c _ _ hb
   rw[hb]
   simp only[Option.isSome_none,Bool.false_eq_true,if_false] at this
   have hlt:o+(len-1)<c.size:=by
    rcases Nat.lt_or_ge (o+(len-1)) c.size with h' | h'
    ·exact h'
    ·rw[Array.getElem?_eq_none h'] at this; cases this
   simp only
   omega
  ·cases this
 ·intro v hv
  obtain⟨n,_,rfl⟩:=List.mem_map.1 hv
  rfl
theorem int_rep (fid:Fid) (w:World) (n:Int):Rep fid (qcX w) (.int n) (.int .i64 n):=⟨rfl,rfl⟩
theorem reps_cons {fid:Fid} {Γ : Ctx} {a:V} {x:Value} {as:List V} {xs:List Value} (h:Rep fid Γ a x) (k:Reps fid Γ as xs):Reps fid Γ (a::as) (x::xs):=⟨_,_,rfl,h,k⟩
end Go.Pm
end SW
section SU
namespace Go.Pm
def fl (P:Program):Nat->TypeId->DataW Unit->Option (List Value)
 | 0,_,_=>none
 | m+1,t,d=>match P.underlying t,d with
  | some (.int k),.lit (.int k' n)=>if k=k' then some [.int k n] else none
  | some (.array n e),.agg ds=>match ds.mapM (fl P m e) with
   | some vs=>if ds.length=n/\vs.all (fun v=>v.length==P.cellsOf e)/\P.cellsOf t=n*P.cellsOf e then some vs.flatten else none
   | none=>none
  | some (.struct fs),.agg ds=>match (fs.toList.zip ds).mapM (fun x=>fl P m x.1.type x.2) with
   | some vs=>if ds.length=fs.size/\((fs.toList.zip vs).all (fun x=>x.2.length==P.cellsOf x.1.type))/\(List.range fs.size).all (fun i=>(fs[i]?.map (·.offset)).getD 0==(vs.take i).flatten.length)/\P.cellsOf t=vs.flatten.length then some vs.flatten else none
   | none=>none
  | _,_=>none
theorem parts {α : Type} : ∀ (vs:List (List α)) (cs:List α) (o:Nat),(∀ (i:Nat) (v:List α),vs[i]?=some v->(cs.drop (o+(vs.take i).flatten.length)).take v.length=v)->cs.length=o+vs.flatten.length->cs.drop o=vs.flatten
 | [],cs,o,_,hl=>by simp at hl; simp[hl]
 | v::vs,cs,o,h,hl=>by
  have h0:=h 0 v rfl
  simp only[List.take_zero,List.flatten_nil,List.length_nil,Nat.add_zero] at h0
  have ih:=parts vs cs (o+v.length) (fun i u hu=>by
   have:=h (i+1) u hu
   simpa [Nat.add_assoc] using this) (by rw[List.flatten_cons,List.length_append] at hl; omega)
  rw[List.flatten_cons,<- ih]
  have e:=List.take_append_drop v.length (cs.drop o)
  rw[h0,List.drop_drop] at e
  exact e.symm
theorem qfx {α β : Type} {f : α -> Option β} : ∀ {l:List α} {r:List β},l.mapM f=some r->r.length=l.length /\ ∀ (i:Nat) (a : α),l[i]?=some a -> ∃ b,r[i]?=some b/\f a=some b
 | [],r,h=>by simp at h; subst h; simp
 | a::l,r,h=>by
  simp only[List.mapM_cons,Option.pure_def,Option.bind_eq_bind,Option.bind_eq_some_iff,Option.some.injEq] at h
  obtain⟨b,hb,r',hr,rfl⟩:=h
  obtain⟨h1,h2⟩:=qfx hr
  refine⟨by simp[h1],fun i x hx=>?_⟩
  cases i with
  | zero=>simp at hx; subst hx; exact⟨b,rfl,hb⟩
  | succ i=>simpa using h2 i x (by simpa using hx)
theorem qcC {α : Type} (m:Nat) : ∀ (vs:List (List α)) (i:Nat),(∀ v∈vs,v.length=m)->i<=vs.length->(vs.take i).flatten.length=i*m
 | _,0,_,_=>by simp
 | [],i+1,_,h=>by simp at h
 | v::vs,i+1,h,hi=>by
  simp only[List.take_succ_cons,List.flatten_cons,List.length_append]
  rw[qcC m vs i (fun u hu=>h u (List.mem_cons_of_mem _ hu)) (by simpa using hi),h v List.mem_cons_self,Nat.add_mul]
  omega
section
variable {enc:TypeId × Value->Unit} {P:Program} {w:World} {base:Nat} {spare:Nat->Bool} {held:Bool}
theorem qfy : ∀ (m:Nat) (t:TypeId) (d:DataW Unit) (vs:List Value) (fuel:Nat) (cs:List Value) (p:List MemPlace),fl P m t d=some vs->DataW.trod enc P w base spare held fuel t cs=some (d,p)->cs=vs
 | 0,t,d,vs,fuel,cs,p,h,_=>by simp[fl] at h
 | m+1,t,d,vs,fuel,cs,p,h,ht=>by
  unfold fl at h
  split at h
  ·rename_i k k' n hu
   split at h
   ·rename_i hk
    subst hk
    cases h
    obtain⟨n',rfl,e,_⟩:=DataW.trod_int hu ht
    simp only[Prod.mk.injEq,DataW.lit.injEq,Lit.int.injEq] at e
    rw[e.1.2]
   ·cases h
  ·rename_i n e ds hu
   split at h
   ·rename_i us hus
    split at h
    ·rename_i hc
     cases h
     obtain⟨h1,h2,h3⟩:=hc
     obtain⟨xs,q,rfl,hx,hl,hn,hel⟩:=DataW.trod_array hu ht
     simp only[Prod.mk.injEq,DataW.agg.injEq] at hx
     obtain⟨g1,g2⟩:=qfx hus
     have hlen : ∀ v∈us,v.length=P.cellsOf e:=fun v hv=>by simpa using List.all_eq_true.1 h2 v hv
     have hp:=parts us cs 0 (fun i v hv=>by
      have hi:i<us.length:=(List.getElem?_eq_some_iff.1 hv).1
      have hfl:=qcC (P.cellsOf e) us i hlen (by omega)
      rw[Nat.zero_add,hfl,hlen v (List.mem_of_getElem? hv)]
      have:=hel i (by omega)
      obtain⟨x,hxi⟩ : ∃ x,xs[i]?=some x:=⟨xs[i]'(by omega),List.getElem?_eq_getElem (by omega)⟩
      rw[hxi] at this
      have hd:ds[i]?=some x.1:=by rw[hx.1]; simp[hxi]
      obtain⟨b,hb,hf⟩:=g2 i _ hd
      rw[hv] at hb
      cases hb
      exact qfy m e x.1 v q _ x.2 hf this) (by
      have hfl:=qcC (P.cellsOf e) us us.length hlen (by omega)
      rw[List.take_length] at hfl
      rw[hl,h3,hfl,g1,h1]; simp)
     simpa using hp
    ·cases h
   ·cases h
  ·rename_i fs ds hu
   split at h
   ·rename_i us hus
    split at h
    ·rename_i hc
     cases h
     obtain⟨h1,h2,h3,h4⟩:=hc
     obtain⟨xs,q,rfl,hx,hl,hn,hel⟩:=DataW.trod_struct hu ht
     simp only[Prod.mk.injEq,DataW.agg.injEq] at hx
     obtain⟨g1,g2⟩:=qfx hus
     have gl:us.length=fs.size:=by rw[g1]; simp[h1]
     have hp:=parts us cs 0 (fun i v hv=>by
      have hi:i<us.length:=(List.getElem?_eq_some_iff.1 hv).1
      obtain⟨f,hf⟩ : ∃ f,fs[i]?=some f:=⟨fs[i]'(by omega),Array.getElem?_eq_getElem (by omega)⟩
      have hfl:fs.toList[i]?=some f:=by simpa using hf
      have ho:=List.all_eq_true.1 h3 i (by simp; omega)
      simp only[hf,Option.map_some,Option.getD_some,beq_iff_eq] at ho
      have hz:(fs.toList.zip us)[i]?=some (f,v):=by simp[List.getElem?_zip_eq_some,hfl,hv]
      have hlv:=List.all_eq_true.1 h2 (f,v) (List.mem_of_getElem? hz)
      simp only[beq_iff_eq] at hlv
      rw[Nat.zero_add,<- ho,hlv]
      have:=hel i f hf
      obtain⟨x,hxi⟩ : ∃ x,xs[i]?=some x:=⟨xs[i]'(by omega),List.getElem?_eq_getElem (by omega)⟩
      rw[hxi] at this
      have hd:ds[i]?=some x.1:=by rw[hx.1]; simp[hxi]
      have hz2:(fs.toList.zip ds)[i]?=some (f,x.1):=by simp[List.getElem?_zip_eq_some,hfl,hd]
      obtain⟨b,hb,hf2⟩:=g2 i _ hz2
      rw[hv] at hb
      cases hb
      exact qfy m f.type x.1 v q _ x.2 hf2 this) (by rw[hl,h4]; simp)
     simpa using hp
    ·cases h
   ·cases h
  ·cases h
end
theorem qdE {F:Nat->Nat} {w:World} : ∀ (vs:List Value),(vs.all fun v=>qaN v)=true->RepDs F w (vs.map .lit) vs
 | [],_=>rfl
 | v::vs,h=>by
  simp only[List.all_cons,Bool.and_eq_true] at h
  exact⟨v,vs,rfl,⟨rfl,h.1⟩,qdE vs h.2⟩
theorem qj2 {P:Program} {w:World} {n:String} {d:DataW Unit} {g:Nat} {t:TypeId} {vs:List Value} {m:Nat} (hg:P.globalNamed n=some g) (ht:(P.globals[g]?).map (·.type)=some t)
  (hf:fl P m t d=some vs) (hv:(vs.all fun v=>qaN v&&v.oneCell')=true) (h:laidMet P [(n,d)] w):RepDs (qhy w) w (vs.map .lit) vs/\Row (qhy w) w g 0 vs:=by
 obtain⟨ps,⟨g0,t0,cs,fuel,p,q,hg0,ht0,hvar,hd,_,hps⟩,_,hcell⟩:=h
 obtain rfl:=Option.some.inj (hg.symm.trans hg0)
 obtain rfl:=Option.some.inj (ht.symm.trans ht0)
 have e:=qfy m t d vs fuel cs.toList p hf hd
 have hc : ∀ i,w.cell? ⟨g,i,none⟩=vs[i]?:=fun i=>by rw[World.var?_cell hg hvar i,<- e]; simp
 refine⟨qdE vs (by
  rw[List.all_eq_true] at hv ⊢
  intro v hvm
  have:=hv v hvm
  simp only[Bool.and_eq_true] at this
  exact this.1),fun i v hi=>by rw[Nat.zero_add,hc,hi],fun hl=>?_,fun v hvm=>?_⟩
 ·have h0:w.cell? ⟨g,vs.length-1,none⟩=some (vs[vs.length-1]'(by omega)):=by rw[hc,List.getElem?_eq_getElem]
  unfold World.cell? at h0
  unfold qhy
  split at h0
  ·rename_i c _ _ hb
   rw[hb]
   simp only[Option.isSome_none,Bool.false_eq_true,if_false] at h0
   have hlt:vs.length-1<c.size:=by
    rcases Nat.lt_or_ge (vs.length-1) c.size with h' | h'
    ·exact h'
    ·rw[Array.getElem?_eq_none h'] at h0; cases h0
   simp only
   omega
  ·cases h0
 ·have:=List.all_eq_true.1 hv v hvm
  simp only[Bool.and_eq_true] at this
  exact this.2
end Go.Pm
end SU
section SU2
namespace Go.Pm
open Go
theorem qgL {P:Program} {w:World} {n:String} {d:DataW Unit} : ∀ (L:List (String × DataW Unit)) (ps:List MemPlace),DataW.LaidVars P w L ps->(n,d)∈L ->
  ∃ g t cs fuel p,P.globalNamed n=some g/\(P.globals[g]?).map (·.type)=some t/\w.var? P n=some cs/\DataW.trod (fun _=>()) P w 0 (fun _=>true) false fuel t cs.toList=some (d,p)
 | [],ps,_,hm=>by cases hm
 | (n',d')::r,ps,h,hm=>by
  obtain⟨g,t,cs,fuel,p,q,h1,h2,h3,h4,h5,_⟩:=h
  rcases List.mem_cons.1 hm with e | hm
  ·cases e; exact⟨g,t,cs,fuel,p,h1,h2,h3,h4⟩
  ·exact qgL r q h5 hm
theorem glb_of_laids {P:Program} {w:World} {n:String} {d:DataW Unit} {L:List (String × DataW Unit)} {g:Nat} {t:TypeId} {vs:List Value} {m:Nat} (hmem:(n,d)∈L) (hg:P.globalNamed n=some g) (ht:(P.globals[g]?).map (·.type)=some t)
  (hf:fl P m t d=some vs) (hv:(vs.all fun v=>qaN v&&v.oneCell')=true) (h:laidMet P L w):RepDs (qhy w) w (vs.map .lit) vs/\Row (qhy w) w g 0 vs:=by
 obtain⟨ps,hL,_,hcell⟩:=h
 obtain⟨g0,t0,cs,fuel,p,hg0,ht0,hvar,hd⟩:=qgL L ps hL hmem
 obtain rfl:=Option.some.inj (hg.symm.trans hg0)
 obtain rfl:=Option.some.inj (ht.symm.trans ht0)
 have e:=qfy m t d vs fuel cs.toList p hf hd
 have hc : ∀ i,w.cell? ⟨g,i,none⟩=vs[i]?:=fun i=>by rw[World.var?_cell hg hvar i,<- e]; simp
 refine⟨qdE vs (by
  rw[List.all_eq_true] at hv ⊢
  intro v hvm
  have:=hv v hvm
  simp only[Bool.and_eq_true] at this
  exact this.1),fun i v hi=>by rw[Nat.zero_add,hc,hi],fun hl=>?_,fun v hvm=>?_⟩
 ·have h0:w.cell? ⟨g,vs.length-1,none⟩=some (vs[vs.length-1]'(by omega)):=by rw[hc,List.getElem?_eq_getElem]
  unfold World.cell? at h0
  unfold qhy
  split at h0
  ·rename_i c _ _ hb
   rw[hb]
   simp only[Option.isSome_none,Bool.false_eq_true,if_false] at h0
   have hlt:vs.length-1<c.size:=by
    rcases Nat.lt_or_ge (vs.length-1) c.size with h' | h'
    ·exact h'
    ·rw[Array.getElem?_eq_none h'] at h0; cases h0
   simp only
   omega
  ·cases h0
 ·have:=List.all_eq_true.1 hv v hvm
  simp only[Bool.and_eq_true] at this
  exact this.2
end Go.Pm
end SU2
section SW2
namespace Go.Pm
def qhq (xs:List Int):List V:=xs.map fun n=>V.int n
@[simp] theorem qjT (xs:List Int):(qhq xs).length=xs.length:=by simp[qhq]
@[simp] theorem qjh (xs:List Int):(intsC xs).length=xs.length:=by simp[intsC]
@[simp] theorem qkm (xs:List Int):qam (qhq xs)=[]:=by
 induction xs with
 | nil=>rfl
 | cons x xs ih=>simpa [qhq] using ih
@[simp] theorem qlm (r:Nat->Nat) (xs:List Int):qbD r (qhq xs)=qhq xs:=by
 induction xs with
 | nil=>rfl
 | cons x xs ih=>simpa [qhq] using ih
@[simp] theorem qjU (xs:List Int):qaR (qhq xs)=some (intsC xs):=by
 induction xs with
 | nil=>rfl
 | cons x xs ih=>
  have:qaR (qhq (x::xs))=match qaR (qhq xs) with
   | some ds=>some (.lit (.int .i64 x)::ds)
   | none=>none:=rfl
  rw[this,ih]; rfl
@[simp] theorem qiL (xs:List Int):(intsC xs).all (fun d=>V.one (.dat d))=true:=by
 simp[intsC,Value.oneCell']
@[simp] theorem qji (xs:List Int):(qhq xs).all V.one=true:=by
 simp[qhq,Value.oneCell']
@[simp] theorem qiM (xs:List Int):(∀ x∈intsC xs,V.one (.dat x)=true):=by
 simp[intsC,Value.oneCell']
def qmq (cs:List Int) (i v:Int):List Int:=cs.set i.toNat v
@[simp] theorem qjV (cs:List Int) (i v:Int):(qmq cs i v).length=cs.length:=by simp[qmq]
def around (n m:Int):Int:=(if n<0 then -(n+1) else n).tmod m
theorem qfZ {n m:Int} (h1:I64 n) (hm:1<=m):0<=around n m/\around n m<m:=by
 unfold around
 split
 ·exact⟨Int.tmod_nonneg _ (by omega),Int.tmod_lt_of_pos _ (by omega)⟩
 ·exact⟨Int.tmod_nonneg _ (by omega),Int.tmod_lt_of_pos _ (by omega)⟩
structure IsRow (d:D) (xs:List Int):Prop where
 len : ∀ σ,V.len σ .sl (.dat d)=some xs.length
 at_ : ∀ i:Int,0<=i->i<xs.length->qaf 1 (.dat d) i=some (.dat (.imm (intsC xs) i.toNat))
 one:V.one (.dat d)=true
 cells:V.cells (.dat d)=[.dat d]
theorem qiN (xs:List Int) (f:Bool):IsRow (.sl (intsC xs) xs.length f) xs where
 len:=fun _=>rfl
 at_:=fun i h0 h1=>by simp[qaf,h0,h1]
 one:=rfl
 cells:=rfl
theorem qh8 (o:Option Addr):IsRow (.lit (.slice o 0 0)) [] where
 len:=fun _=>rfl
 at_:=fun i h0 h1=>by simp at h1; omega
 one:=rfl
 cells:=rfl
theorem qau {prog:Nat->Option PFun} {k:Nat} {b:PC} {fr fr':Fr} {σ σ':S} (h:gcF k fr σ = gcF k fr' σ'):Z prog (.loop k b fr σ)=Z prog (.loop k b fr' σ'):=by
 rw[qah,qah,h]
@[simp] theorem ql7:Fr.noD []=[]:=rfl
@[simp] theorem qlO (k:Nat) (v:V) (r:Fr):Fr.noD ((k,v)::r)=if k=1000000 then Fr.noD r else (k,v)::Fr.noD r:=by
 simp only[Fr.noD,List.filter_cons,dkey]
 by_cases h:k=1000000<;>simp[h]
end Go.Pm
end SW2
section SX1
namespace Go.Pm
theorem qkl {d:D} {xs:List Int} (h:RowV d xs):IsRow d xs:=by
 rcases h with ⟨o,rfl,rfl⟩ | rfl
 ·exact qh8 o
 ·exact qiN xs false
theorem wf_i64 {n:Int} (h:(Lit.int .i64 n).wf=true):I64 n:=by
 simp only[Lit.wf,Bool.and_eq_true,decide_eq_true_eq] at h
 have e1:IntKind.i64.min = -9223372036854775808:=by decide
 have e2:IntKind.i64.max=9223372036854775807:=by decide
 unfold I64
 omega
theorem ql6 {w:World} {a:Option Addr} {len cap:Nat} {zs:List Int}
  (h:(a=none/\len=0/\cap=0/\zs=[]) \/ ∃ x,a=some x/\len<=cap/\cap<=maxLen/\zs.length=cap/\(∀ i,i<zs.length->w.cell? (x.add i)=some (.int .i64 (zs.getD i 0))) /\ ∀ n∈zs,(Lit.int .i64 n).wf=true) :
  (zs.take len).length<=9223372036854775807:=by
 rcases h with ⟨rfl,rfl,rfl,rfl⟩ | ⟨x,rfl,h1,h2,h3,h4,h5⟩
 ·simp
 ·have e:maxLen<=9223372036854775807:=by decide
  rw[List.length_take]
  omega
theorem qlN (fid:Fid) (w:World) (b:Bool):Rep fid (qcX w) (.bool b) (.bool b):=⟨rfl,rfl⟩
end Go.Pm
end SX1
section SX3
namespace Go.Pm
open Go
theorem qmh (fid:Fid) (w:World) (s:ByteArray):Rep fid (qcX w) (.str s) (.string s):=⟨rfl,rfl⟩
theorem qlQ (fid:Fid) (w:World) (n:Int):Rep fid (qcX w) (.dat (.lit (.int .u8 n))) (.int .u8 n):=⟨rfl,rfl⟩
theorem qmx {n:Int} (h:(Lit.int .u8 n).wf=true) : ∃ c:Nat,c<256/\n=c:=by
 have:0<=n/\n<256:=by
  simp only[Lit.wf,Bool.and_eq_true,decide_eq_true_eq] at h
  have e1:IntKind.u8.min=0:=by decide
  have e2:IntKind.u8.max=255:=by decide
  omega
 exact⟨n.toNat,by omega,by omega⟩
end Go.Pm
end SX3
section SFX
namespace Go.Pm.F
@[simp] abbrev sN:D := .lit (.slice none 0 0)
@[simp] abbrev eN:D := .lit (.string ⟨#[]⟩)
@[simp] abbrev zN:D := .lit (.int .i64 0)
@[simp] abbrev ii (n:Int):D := .lit (.int .i64 n)
@[simp] abbrev kk (n:Int):X := .c (.int .i64 n)
@[simp] abbrev kT:X := .c (.bool true)
@[simp] abbrev kF:X := .c (.bool false)
@[simp] abbrev jj (d:Nat) (o:O):I:=⟨some d,o,none,[]⟩
@[simp] abbrev jn (o:O):I:=⟨none,o,none,[]⟩
@[simp] abbrev jt (d g:Nat) (o:O):I:=⟨some d,o,some (g,true),[]⟩
@[simp] abbrev jf (d g:Nat) (o:O):I:=⟨some d,o,some (g,false),[]⟩
@[simp] abbrev mv (d a:Nat):I:=⟨some d,.mov (.t a),none,[]⟩
@[simp] abbrev mx (d:Nat) (x:X):I:=⟨some d,.mov x,none,[]⟩
@[simp] abbrev l1 (d a:Nat):I:=⟨some d,.load false 1 (.t a),none,[]⟩
@[simp] abbrev la (d n a:Nat):I:=⟨some d,.load true n (.t a),none,[]⟩
@[simp] abbrev fa (d o a:Nat):I:=⟨some d,.fieldAddr o (.t a),none,[]⟩
@[simp] abbrev nc (d a:Nat):I:=⟨some d,.nilchk (.t a),none,[]⟩
@[simp] abbrev bx (d a:Nat):I:=⟨some d,.box (.t a),none,[]⟩
@[simp] abbrev ex (d a n:Nat):I:=⟨some d,.extract (.t a) n,none,[]⟩
@[simp] abbrev ls (d a:Nat):I:=⟨some d,.len .sl (.t a),none,[]⟩
@[simp] abbrev lz (d a:Nat):I:=⟨some d,.len .str (.t a),none,[]⟩
@[simp] abbrev bn (d:Nat) (o:BinOp) (a b:Nat):I:=⟨some d,.bin o (.t a) (.t b),none,[]⟩
@[simp] abbrev bk (d:Nat) (o:BinOp) (a:Nat) (n:Int):I:=⟨some d,.bin o (.t a) (.c (.int .i64 n)),none,[]⟩
@[simp] abbrev st (n a b:Nat):I:=⟨none,.store n (.t a) (.t b),none,[]⟩
@[simp] abbrev cl (d f:Nat) (xs:List Nat):I:=⟨some d,.call f (xs.map .t),none,[]⟩
@[simp] abbrev rn (ops:List I) (keep:List Nat) (lasts:List Nat:=[]):PC := .region none ops keep lasts
end Go.Pm.F
end SFX
section SF01
namespace Go.Pm.F
variable (C:Task->Option Res) (q:Nat) (fr:Fr) (σ : S)
def F17:PFun:=⟨2,[.tmp 4],.seq (rn [mx 4 (kk 0)] [0,1]) (.seq (.seq (rn [mv 5 0,bk 6 .lss 5 0] [0,1,6]) (.cond (.t 6) (rn [mv 7 0,bk 8 .add 7 1,jj 9 (.un .neg (.t 8)),mv 0 9] [0,1]) (.skip))) (.seq (rn [mv 10 0,mv 11 1,bn 12 .rem 10 11,mv 4 12] [4]) (.ret))),false,false,false⟩
@[simp] def F58l0x:PC:=(.seq (.seq (rn [mv 11 5,mv 12 0,ls 13 12,bn 14 .lss 11 13] [0,1,5,14]) (.cond (.t 14) (.skip) (.exit 0))) (.seq (.block 1 (.seq (.region (some []) [mv 17 0,mv 18 5,jj 19 (.indexAddr 1 (.t 17) (.t 18)),l1 20 19,mv 21 1,mv 22 5,jj 23 (.indexAddr 1 (.t 21) (.t 22)),l1 24 23,bn 25 .neq 20 24] [0,1,5,25]) (.cond (.t 25) (.seq (rn [mx 4 kF] [4]) (.ret)) (.skip)))) (rn [mv 15 5,bk 16 .add 15 1,mv 5 16] [0,1,5])))
def F58l0:PC:=F58l0x
theorem qf4:run C q F58l0 fr σ = run C q F58l0x fr σ := rfl
def F58:PFun:=⟨2,[.tmp 4],.seq (rn [mx 4 kF] [0,1]) (.seq (.seq (rn [mv 6 0,ls 7 6,mv 8 1,ls 9 8,bn 10 .neq 7 9] [0,1,10]) (.cond (.t 10) (.seq (rn [mx 4 kF] [4]) (.ret)) (.skip))) (.seq (.seq (rn [mx 5 (kk 0)] [0,1,5]) (.block 0 (.loop F58l0))) (.seq (rn [mx 4 kT] [4]) (.ret)))),false,false,false⟩
end Go.Pm.F
end SF01
