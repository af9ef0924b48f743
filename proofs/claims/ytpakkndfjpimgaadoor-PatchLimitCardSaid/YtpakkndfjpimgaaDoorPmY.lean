/- The abstract program's meaning without fuel: equations to reckon with. Reckoning with the abstract machine: what simp may unfold; rows of numbers. What a law is given, as abstract values; what it may leave behind. What a package variable holds, read off the datum that it is laid with. What a package variable holds, out of a list of several that are laid. Rows of numbers, places, wraps: what the walks of all chapters use. A law's arguments, as the abstract machine's values. A string, a byte, as arguments of a law. The abstract machine's program: short forms of its operations. -/
import Derived.Test.YtpakkndfjpimgaaDoorPmR
import Derived.IntWalk
import Derived.DataReads
import Derived.Below
import Derived.OpenShut
import Derived.FnData
import Derived.LaidMore
import Derived.Test.YtpakkndfjpimgaaDoorPmA
set_option linter.unusedSimpArgs false
set_option linter.unusedVariables false
section SY
namespace Go.Pm
def Le (C C':Task->Option Res):Prop := ∀ t r,C t=some r->C' t=some r
section
variable {C C':Task->Option Res}
theorem qaH (h:Le C C') {f:List V->S->Task} {args:List V} {σ : S} {r:V × S} (hr:qaI C f args σ = some r):qaI C' f args σ = some r:=by grind [qaI,Le]
theorem qbH (h:Le C C') {f:List V->S->Task} {args:List V} {σ : S} {r:V × S} (hr:qa3 C f args σ = some r):qa3 C' f args σ = some r:=by grind [qa3,Le]
theorem qek (h:Le C C') {fr:Fr} {σ : S} {op:O} {r:V × S} (hr:qaL C fr σ op=some r):qaL C' fr σ op=some r:=by
 cases op with
 | call f xs=>
  simp only[qaL] at hr ⊢
  split at hr
  ·exact qbH h hr
  ·cases hr
 | callv f xs=>
  simp only[qaL] at hr ⊢
  split at hr
  ·exact qbH h hr
  ·exact qbH h hr
  ·cases hr
 | invoke tbl x xs=>
  simp only[qaL] at hr ⊢
  split at hr
  ·grind [Le,qaL,qbH]
  ·cases hr
 | _=>exact hr
theorem qaY (h:Le C C') {fr:Fr} {σ : S} {op:O} {r:V × S} (hr:qag C fr σ op=some r):qag C' fr σ op=some r:=by
 cases op with
 | call f xs=>
  simp only[qag] at hr ⊢
  split at hr
  ·exact qaH h hr
  ·cases hr
 | callv f xs=>
  simp only[qag] at hr ⊢
  split at hr
  ·exact qaH h hr
  ·exact qaH h hr
  ·exact qaH h hr
  ·cases hr
 | invoke tbl x xs=>
  simp only[qag] at hr ⊢
  split at hr
  ·grind [Le,qag,qaH]
  ·cases hr
 | _=>exact hr
theorem qcu (h:Le C C') : ∀ {is:List I} {fr:Fr} {σ : S} {r:Fr × S},qcb C is fr σ = some r->qcb C' is fr σ = some r
 | [],_,_,_,hr=>hr
 | i::is,fr,σ,r,hr=>by
  simp only[qcb] at hr ⊢
  split at hr
  ·rename_i hw
   split at hr
   ·rename_i v σ' hv
    simp only[qaY h hv]
    exact qcu h hr
   ·cases hr
  ·exact qcu h hr
  ·cases hr
theorem qbZ (h:Le C C') {f:List V->S->Task} {args:List V} {σ : S} {r:V × S} (hr:qa3 C f args σ = some r):qaI C' f args σ = none:=by grind [qa3,qaI,Le]
theorem qcU (h:Le C C') {fr:Fr} {σ : S} {op:O} {r:V × S} (hr:qaL C fr σ op=some r):qag C' fr σ op=none:=by
 cases op with
 | call f xs=>
  simp only[qaL] at hr
  simp only[qag]
  split at hr
  ·exact qbZ h hr
  ·cases hr
 | callv f xs=>
  simp only[qaL] at hr
  simp only[qag]
  split at hr
  ·grind [Le,qaL,qag,qbZ]
  ·grind [Le,qaL,qag,qbZ]
  ·cases hr
 | invoke tbl x xs=>
  simp only[qaL] at hr
  simp only[qag]
  split at hr
  ·grind [Le,qaL,qag,qbZ]
  ·cases hr
 | panic x=>rfl
 | _=>cases hr
theorem qbz (h:Le C C') : ∀ {is:List I} {fr:Fr} {σ : S} {r:V × Fr × S},qa9 C is fr σ = some r->qa9 C' is fr σ = some r/\qcb C' is fr σ = none
 | [],_,_,_,hr=>by simp[qa9] at hr
 | i::is,fr,σ,r,hr=>by
  simp only[qa9,qcb] at hr ⊢
  split at hr
  ·rename_i hw
   split at hr
   ·rename_i v σ' hv
    simp only[qaY h hv]
    exact qbz h hr
   ·grind [Le,qa9,qcb,qcU,qek]
  ·exact qbz h hr
  ·cases hr
theorem qbh (h:Le C C') : ∀ {is:List I} {q:Nat} {fr:Fr} {σ : S} {r:Nat × List Ev × V × S},qaW C q is fr σ = some r->qaW C' q is fr σ = some r/\qbl C' is fr σ = none
 | [],_,_,_,_,hr=>by simp[qaW] at hr
 | i::is,q,fr,σ,r,hr=>by
  simp only[qaW,qbl] at hr ⊢
  split at hr
  ·rename_i hw
   split at hr
   ·rename_i v σ' hv
    simp only[qaY h hv]
    split at hr
    ·rename_i p l u σ'' hrest
     obtain⟨h1,h2⟩:=qbh h hrest
     simp only[h1,h2]
     exact⟨hr,trivial⟩
    ·cases hr
   ·grind [Le,qaW,qbl,qcU,qek]
  ·split at hr
   ·rename_i p l u σ'' hrest
    obtain⟨h1,h2⟩:=qbh h hrest
    simp only[h1,h2]
    exact⟨hr,trivial⟩
   ·cases hr
  ·cases hr
theorem qbA (h:Le C C') : ∀ {is:List I} {fr:Fr} {σ : S} {r:List Ev × Fr × S},qbl C is fr σ = some r->qbl C' is fr σ = some r
 | [],_,_,_,hr=>hr
 | i::is,fr,σ,r,hr=>by
  simp only[qbl] at hr ⊢
  split at hr
  ·rename_i hw
   split at hr
   ·rename_i v σ' hv
    simp only[qaY h hv]
    split at hr
    ·rename_i l fr' σ'' hrest
     simp only[qbA h hrest]; exact hr
    ·cases hr
   ·cases hr
  ·split at hr
   ·rename_i l fr' σ'' hrest
    simp only[qbA h hrest]; exact hr
   ·cases hr
  ·cases hr
theorem qbP (h:Le C C') : ∀ {is:List I} {fr:Fr} {σ : S} {r:List (Fr × S)},qcO C is fr σ = some r->qcO C' is fr σ = some r
 | [],_,_,_,hr=>hr
 | i::is,fr,σ,r,hr=>by
  simp only[qcO] at hr ⊢
  split at hr
  ·rename_i hw
   split at hr
   ·rename_i v σ' hv
    simp only[qaY h hv]
    split at hr
    ·rename_i l hrest
     simp only[qbP h hrest]; exact hr
    ·cases hr
   ·cases hr
  ·split at hr
   ·rename_i l hrest
    simp only[qbP h hrest]; exact hr
   ·cases hr
  ·cases hr
theorem qat (h:Le C C') {k:Nat} : ∀ {pc:PC} {fr:Fr} {σ : S} {r:Ex × Fr × S},run C k pc fr σ = some r->run C' k pc fr σ = some r
 | .range f ps as bd,fr,σ,r,hr=>by grind [run,Le,qaH]
 | .skip,_,_,_,hr=>hr
 | .exit _,_,_,_,hr=>hr
 | .ret,_,_,_,hr=>hr
 | .region none ops keep _,fr,σ,r,hr=>by grind [run,Le,qcu,qbz]
 | .region (some rs) ops keep _,fr,σ,r,hr=>by grind [run,Le,qbA,qbP,qbh]
 | .seq a b,fr,σ,r,hr=>by
  simp only[run] at hr ⊢
  split at hr
  ·rename_i fr' σ' hx; simp only[qat h hx]; exact qat h hr
  ·rename_i hne
   have:=qat h hr
   rw[this]
   obtain⟨e,fr',σ'⟩:=r
   cases e with
   | normal=>exact absurd hr (hne _ _)
   | exit id=>rfl
   | ret=>rfl
   | pan v=>rfl
 | .cond c a b,fr,σ,r,hr=>by
  simp only[run] at hr ⊢
  split at hr
  ·exact qat h hr
  ·exact qat h hr
  ·cases hr
 | .block id b,fr,σ,r,hr=>by
  simp only[run] at hr ⊢
  split at hr
  ·rename_i id' fr' σ' hx; simp only[qat h hx]; exact hr
  ·rename_i hne
   have:=qat h hr
   rw[this]
   obtain⟨e,fr',σ'⟩:=r
   cases e with
   | normal=>rfl
   | exit id=>exact absurd hr (hne _ _ _)
   | ret=>rfl
   | pan v=>rfl
 | .loop b,fr,σ,r,hr=>by grind [run,Le]
theorem qcV (h:Le C C') {args:List V} {σ : S} {r:Res} (hr:qb2 C args σ = some r):qb2 C' args σ = some r:=by
 unfold qb2 at hr ⊢
 split at hr
 ·split at hr
  ·split at hr
   ·rename_i hlp hc
    simp only[if_pos hc]
    split at hr
    ·rename_i fr1 σ1 hx
     simp only[qat h hx]
     split at hr
     ·split at hr
      ·rename_i hlp1 hst
       simp only[hlp1,if_pos hst]
       split at hr
       ·cases hr
       ·rename_i e fr2 σ2 hnp hy
        simp only[qat h hy]
        cases e with
        | pan v=>exact (hnp _ rfl).elim
        | normal=>exact hr
        | exit id=>exact hr
        | ret=>exact hr
       ·cases hr
      ·cases hr
     ·cases hr
    ·cases hr
   ·cases hr
  ·cases hr
 ·cases hr
theorem qaZ (h:Le C C') : ∀ {l:List V} {σ : S} {r:S},qaz C l σ = some r->qaz C' l σ = some r
 | [],σ,r,hr=>hr
 | v::l,σ,r,hr=>by
  unfold qaz at hr ⊢
  split at hr
  ·rename_i e; cases e
  ·rename_i id a r' e
   cases e
   split at hr
   ·rename_i v' σ' hc
    simp only[qaH h hc]
    exact qaZ h hr
   ·cases hr
  ·cases hr
theorem qel (h:Le C C') {pf:PFun} {k:Nat} {fr:Fr} {σ : S} {r:Res} (hr:qc4 C pf k fr σ = some r):qc4 C' pf k fr σ = some r:=by grind [qc4,Le,qaZ]
theorem qdQ (h:Le C C') {pf:PFun} {k:Nat} {v:V} {fr:Fr} {σ : S} {r:Res} (hr:qcG C pf k v fr σ = some r):qcG C' pf k v fr σ = some r:=by
 unfold qcG at hr ⊢
 split at hr
 ·exact hr
 ·grind [Le,qcG,qaH,qaZ]
 ·cases hr
theorem qcW (h:Le C C') {pf:PFun} {args:List V} {σ : S} {r:Res} (hr:qa2 C pf args σ = some r):qa2 C' pf args σ = some r:=by grind [qc4,qbt,qa2,Le,qel,qat,qdQ]
theorem qcC (h:Le C C') {pf:PFun} {args:List V} {σ : S} {r:Res} (hr:qaK C pf args σ = some r):qaK C' pf args σ = some r:=by
 unfold qaK at hr ⊢
 split at hr
 ·grind [Le,qaK,qat]
 ·cases hr
end
variable {prog:Nat->Option PFun}
theorem qfe : ∀ n,Le (qaX prog n) (qaX prog (n+1))
 | 0=>fun t r h=>by simp[qaX] at h
 | n+1=>fun t r h=>by
  have ih:=qfe n
  cases t with
  | call f args σ=>
   simp only[qaX] at h ⊢
   split at h
   ·grind [Le,qaX,qcW]
   ·cases h
  | dcall f args σ=>
   simp only[qaX] at h ⊢
   split at h
   ·exact qcC ih h
   ·cases h
  | round args σ=>
   simp only[qaX] at h ⊢
   exact qcV ih h
  | loop k b fr σ=>
   simp only[qaX] at h ⊢
   split at h
   ·grind [Le,qaX,qat]
   ·cases h
theorem qap {m n:Nat} (h:m<=n):Le (qaX prog m) (qaX prog n):=by
 induction n with
 | zero => have:m=0:=by omega
           subst this; exact fun _ _ h=>h
 | succ n ih=>
  rcases Nat.lt_or_ge n m with h' | h'
  ·grind [Le,qaX]
  ·exact fun t r ht=>qfe n t r (ih h' t r ht)
open Classical in
noncomputable def Z (prog:Nat->Option PFun) (t:Task):Option Res:=if h : ∃ n r,qaX prog n t=some r then qaX prog (Classical.choose h) t else none
theorem Z_iff {t:Task} {r:Res}:Z prog t=some r ↔ ∃ n,qaX prog n t=some r:=by
 classical
 unfold Z
 constructor
 ·intro h
  split at h
  ·exact⟨_,h⟩
  ·cases h
 ·rintro ⟨n,hn⟩
  have hex : ∃ n r,qaX prog n t=some r:=⟨n,r,hn⟩
  rw[dif_pos hex]
  obtain⟨r',hr'⟩:=Classical.choose_spec hex
  have h1:=qap (prog:=prog) (Nat.le_max_left n (Classical.choose hex)) t r hn
  have h2:=qap (prog:=prog) (Nat.le_max_right n (Classical.choose hex)) t r' hr'
  rw[h1] at h2
  rw[hr',h2]
theorem qff {n:Nat} {t:Task} {r:Res} (h:qaX prog n t=some r):Z prog t=some r:=Z_iff.2 ⟨n,h⟩
theorem qbi {f:List V->S->Task} {args:List V} {σ : S} {r:V × S} (hr:qaI (Z prog) f args σ = some r) : ∃ n,qaI (qaX prog n) f args σ = some r:=by
 unfold qaI at hr ⊢
 simp only at hr ⊢
 split at hr
 ·split at hr
  ·cases hr
  ·rename_i v s' hnp hc
   obtain⟨n,hn⟩:=Z_iff.1 hc
   exact⟨n,by simp only[hn]; exact hr⟩
  ·cases hr
 ·cases hr
theorem qcv {f:List V->S->Task} {args:List V} {σ : S} {r:V × S} (hr:qa3 (Z prog) f args σ = some r) : ∃ n,qa3 (qaX prog n) f args σ = some r:=by
 unfold qa3 at hr ⊢
 simp only at hr ⊢
 split at hr
 ·split at hr
  ·rename_i v s' hc
   obtain⟨n,hn⟩:=Z_iff.1 hc
   exact⟨n,by simp only[hn]; exact hr⟩
  ·cases hr
 ·cases hr
theorem qf8 {fr:Fr} {σ : S} {op:O} {r:V × S} (hr:qaL (Z prog) fr σ op=some r) : ∃ n,qaL (qaX prog n) fr σ op=some r:=by
 cases op with
 | call f xs=>
  simp only[qaL] at hr ⊢
  split at hr
  ·exact qcv hr
  ·cases hr
 | callv f xs=>
  simp only[qaL] at hr ⊢
  split at hr
  ·exact qcv hr
  ·exact qcv hr
  ·cases hr
 | invoke tbl x xs=>
  simp only[qaL] at hr ⊢
  split at hr
  ·split at hr
   ·exact qcv hr
   ·cases hr
  ·cases hr
 | _=>exact⟨0,hr⟩
theorem qdR {fr:Fr} {σ : S} {op:O} {r:V × S} (hr:qag (Z prog) fr σ op=some r) : ∃ n,qag (qaX prog n) fr σ op=some r:=by
 cases op with
 | call f xs=>
  simp only[qag] at hr ⊢
  split at hr
  ·exact qbi hr
  ·cases hr
 | callv f xs=>
  simp only[qag] at hr ⊢
  split at hr
  ·exact qbi hr
  ·exact qbi hr
  ·exact qbi hr
  ·cases hr
 | invoke tbl x xs=>
  simp only[qag] at hr ⊢
  split at hr
  ·split at hr
   ·exact qbi hr
   ·cases hr
  ·cases hr
 | _=>exact⟨0,hr⟩
theorem qeL : ∀ {is:List I} {fr:Fr} {σ : S} {r:Fr × S},qcb (Z prog) is fr σ = some r -> ∃ n,qcb (qaX prog n) is fr σ = some r
 | [],_,_,_,hr=>⟨0,hr⟩
 | i::is,fr,σ,r,hr=>by
  simp only[qcb] at hr ⊢
  split at hr
  ·rename_i hw
   split at hr
   ·rename_i v σ' hv
    obtain⟨n,hn⟩:=qdR hv
    obtain⟨m,hm⟩:=qeL hr
    refine⟨max n m,?_⟩
    simp only[qaY (qap (Nat.le_max_left n m)) hn]
    exact qcu (qap (Nat.le_max_right n m)) hm
   ·cases hr
  ·exact qeL hr
  ·cases hr
theorem qdS : ∀ {is:List I} {fr:Fr} {σ : S} {r:List Ev × Fr × S},qbl (Z prog) is fr σ = some r -> ∃ n,qbl (qaX prog n) is fr σ = some r
 | [],_,_,_,hr=>⟨0,hr⟩
 | i::is,fr,σ,r,hr=>by
  simp only[qbl] at hr ⊢
  split at hr
  ·rename_i hw
   split at hr
   ·rename_i v σ' hv
    obtain⟨n,hn⟩:=qdR hv
    split at hr
    ·rename_i l fr' σ'' hrest
     obtain⟨m,hm⟩:=qdS hrest
     refine⟨max n m,?_⟩
     simp only[qaY (qap (Nat.le_max_left n m)) hn,qbA (qap (Nat.le_max_right n m)) hm]
     exact hr
    ·cases hr
   ·cases hr
  ·split at hr
   ·rename_i l fr' σ'' hrest
    obtain⟨m,hm⟩:=qdS hrest
    exact⟨m,by simp only[hm]; exact hr⟩
   ·cases hr
  ·cases hr
theorem qeM : ∀ {is:List I} {fr:Fr} {σ : S} {r:List (Fr × S)},qcO (Z prog) is fr σ = some r -> ∃ n,qcO (qaX prog n) is fr σ = some r
 | [],_,_,_,hr=>⟨0,hr⟩
 | i::is,fr,σ,r,hr=>by
  simp only[qcO] at hr ⊢
  split at hr
  ·rename_i hw
   split at hr
   ·rename_i v σ' hv
    obtain⟨n,hn⟩:=qdR hv
    split at hr
    ·rename_i l hrest
     obtain⟨m,hm⟩:=qeM hrest
     refine⟨max n m,?_⟩
     simp only[qaY (qap (Nat.le_max_left n m)) hn,qbP (qap (Nat.le_max_right n m)) hm]
     exact hr
    ·cases hr
   ·cases hr
  ·split at hr
   ·rename_i l hrest
    obtain⟨m,hm⟩:=qeM hrest
    exact⟨m,by simp only[hm]; exact hr⟩
   ·cases hr
  ·cases hr
theorem qdT : ∀ {is:List I} {fr:Fr} {σ : S} {r:V × Fr × S},qa9 (Z prog) is fr σ = some r -> ∃ n,qa9 (qaX prog n) is fr σ = some r
 | [],_,_,_,hr=>by simp[qa9] at hr
 | i::is,fr,σ,r,hr=>by
  simp only[qa9] at hr ⊢
  split at hr
  ·rename_i hw
   split at hr
   ·rename_i v σ' hv
    obtain⟨n,hn⟩:=qdR hv
    obtain⟨m,hm⟩:=qdT hr
    refine⟨max n m,?_⟩
    simp only[qaY (qap (Nat.le_max_left n m)) hn]
    exact (qbz (qap (Nat.le_max_right n m)) hm).1
   ·split at hr
    ·rename_i v σ' hv
     obtain⟨n,hn⟩:=qf8 hv
     exact⟨n,by simp only[qcU (fun _ _ h=>h) hn,hn]; exact hr⟩
    ·cases hr
  ·exact qdT hr
  ·cases hr
theorem qdf : ∀ {is:List I} {q:Nat} {fr:Fr} {σ : S} {r:Nat × List Ev × V × S},qaW (Z prog) q is fr σ = some r -> ∃ n,qaW (qaX prog n) q is fr σ = some r
 | [],_,_,_,_,hr=>by simp[qaW] at hr
 | i::is,q,fr,σ,r,hr=>by
  simp only[qaW] at hr ⊢
  split at hr
  ·rename_i hw
   split at hr
   ·rename_i v σ' hv
    obtain⟨n,hn⟩:=qdR hv
    split at hr
    ·rename_i p l u σ'' hrest
     obtain⟨m,hm⟩:=qdf hrest
     refine⟨max n m,?_⟩
     simp only[qaY (qap (Nat.le_max_left n m)) hn,(qbh (qap (Nat.le_max_right n m)) hm).1]
     exact hr
    ·cases hr
   ·split at hr
    ·rename_i v σ' hv
     obtain⟨n,hn⟩:=qf8 hv
     exact⟨n,by simp only[qcU (fun _ _ h=>h) hn,hn]; exact hr⟩
    ·cases hr
  ·split at hr
   ·rename_i p l u σ'' hrest
    obtain⟨m,hm⟩:=qdf hrest
    exact⟨m,by simp only[hm]; exact hr⟩
   ·cases hr
  ·cases hr
theorem qb9 {k:Nat} : ∀ {pc:PC} {fr:Fr} {σ : S} {r:Ex × Fr × S},run (Z prog) k pc fr σ = some r -> ∃ n,run (qaX prog n) k pc fr σ = some r
 | .range f ps as bd,fr,σ,r,hr=>by grind [run,Z,qaX,qbi]
 | .skip,_,_,_,hr=>⟨0,hr⟩
 | .exit _,_,_,_,hr=>⟨0,hr⟩
 | .ret,_,_,_,hr=>⟨0,hr⟩
 | .region none ops keep _,fr,σ,r,hr=>by
  simp only[run] at hr ⊢
  split at hr
  ·grind [run,Z,qaX,qeL]
  ·split at hr
   ·rename_i v fr' σ' hx
    obtain⟨n,hn⟩:=qdT hx
    exact⟨n,by simp only[hn,(qbz (fun _ _ h=>h) hn).2]; exact hr⟩
   ·cases hr
 | .region (some rs) ops keep _,fr,σ,r,hr=>by
  simp only[run] at hr ⊢
  split at hr
  ·rename_i es fr' σ' hx
   obtain⟨n,hn⟩:=qdS hx
   split at hr
   ·grind
   ·rename_i hc
    split at hr
    ·rename_i ss ht
     obtain⟨m,hm⟩:=qeM ht
     refine⟨max n m,?_⟩
     simp only[qbA (qap (Nat.le_max_left n m)) hn,qbP (qap (Nat.le_max_right n m)) hm]
     rw[if_neg hc]; exact hr
    ·cases hr
  ·split at hr
   ·rename_i p es v σ' hx
    obtain⟨n,hn⟩:=qdf hx
    exact⟨n,by simp only[hn,(qbh (fun _ _ h=>h) hn).2]; exact hr⟩
   ·cases hr
 | .seq a b,fr,σ,r,hr=>by
  simp only[run] at hr ⊢
  split at hr
  ·rename_i fr' σ' hx
   obtain⟨n,hn⟩:=qb9 hx
   obtain⟨m,hm⟩:=qb9 hr
   refine⟨max n m,?_⟩
   simp only[qat (qap (Nat.le_max_left n m)) hn]
   exact qat (qap (Nat.le_max_right n m)) hm
  ·rename_i hne
   obtain⟨n,hn⟩:=qb9 hr
   refine⟨n,?_⟩
   rw[hn]
   obtain⟨e,fr',σ'⟩:=r
   cases e with
   | normal=>exact absurd hr (hne _ _)
   | exit id=>rfl
   | ret=>rfl
   | pan v=>rfl
 | .cond c a b,fr,σ,r,hr=>by
  simp only[run] at hr ⊢
  split at hr
  ·exact qb9 hr
  ·exact qb9 hr
  ·cases hr
 | .block id b,fr,σ,r,hr=>by
  simp only[run] at hr ⊢
  split at hr
  ·rename_i id' fr' σ' hx
   obtain⟨n,hn⟩:=qb9 hx
   exact⟨n,by simp only[hn]; exact hr⟩
  ·rename_i hne
   obtain⟨n,hn⟩:=qb9 hr
   refine⟨n,?_⟩
   rw[hn]
   obtain⟨e,fr',σ'⟩:=r
   cases e with
   | normal=>rfl
   | exit id=>exact absurd hr (hne _ _ _)
   | ret=>rfl
   | pan v=>rfl
 | .loop b,fr,σ,r,hr=>by
  simp only[run] at hr ⊢
  split at hr
  ·rename_i e fr' σ' hx
   obtain⟨n,hn⟩:=Z_iff.1 hx
   exact⟨n,by simp only[hn]; exact hr⟩
  ·cases hr
theorem qce : ∀ {l:List V} {σ : S} {r:S},qaz (Z prog) l σ = some r -> ∃ n,qaz (qaX prog n) l σ = some r
 | [],σ,r,hr=>⟨0,hr⟩
 | v::l,σ,r,hr=>by
  unfold qaz at hr ⊢
  split at hr
  ·rename_i e; cases e
  ·rename_i id a r' e
   cases e
   split at hr
   ·rename_i v' σ' hc
    obtain⟨n,hn⟩:=qbi hc
    obtain⟨m,hm⟩:=qce hr
    refine⟨max n m,?_⟩
    simp only[qaH (qap (Nat.le_max_left n m)) hn]
    exact qaZ (qap (Nat.le_max_right n m)) hm
   ·cases hr
  ·cases hr
theorem qf9 {pf:PFun} {k:Nat} {fr:Fr} {σ : S} {r:Res} (hr:(if pf.df then qc4 (Z prog) pf k fr σ else qbt pf k fr σ)=some r) : ∃ n,(if pf.df then qc4 (qaX prog n) pf k fr σ else qbt pf k fr σ)=some r:=by
 split at hr
 ·grind [qc4,Z,qbt,qaX,qce]
 ·rename_i hd
  simp only[if_neg hd]
  exact⟨0,hr⟩
theorem qgU {pf:PFun} {k:Nat} {v:V} {fr:Fr} {σ : S} {r:Res} (hr:qcG (Z prog) pf k v fr σ = some r) : ∃ n,qcG (qaX prog n) pf k v fr σ = some r:=by
 unfold qcG at hr ⊢
 split at hr
 ·exact⟨0,hr⟩
 ·split at hr
  ·cases hr
  ·rename_i hn
   simp only[if_neg hn]
   split at hr
   ·rename_i v' σ' hc
    obtain⟨n,hn⟩:=qbi hc
    split at hr
    ·rename_i σ'' hx
     obtain⟨m,hm⟩:=qce hx
     refine⟨max n m,?_⟩
     simp only[qaH (qap (Nat.le_max_left n m)) hn,qaZ (qap (Nat.le_max_right n m)) hm]
     exact hr
    ·cases hr
   ·cases hr
 ·cases hr
theorem qfK {pf:PFun} {args:List V} {σ : S} {r:Res} (h:qa2 (Z prog) pf args σ = some r) : ∃ n,qa2 (qaX prog n) pf args σ = some r:=by
 have lv : ∀ {n m k fr σ},(if pf.df then qc4 (qaX prog m) pf k fr σ else qbt pf k fr σ)=some r->m<=n->(if pf.df then qc4 (qaX prog n) pf k fr σ else qbt pf k fr σ)=some r:=fun hr hle=>by
  split at hr
  ·rename_i hd; rw[if_pos hd]; exact qel (qap hle) hr
  ·rename_i hd; rw[if_neg hd]; exact hr
 unfold qa2 at h ⊢
 split at h
 ·rename_i hl
  simp only[if_pos hl]
  split at h
  ·rename_i fr σ' hx
   obtain⟨n,hn⟩:=qb9 hx
   obtain⟨m,hm⟩:=qf9 h
   refine⟨max n m,?_⟩
   simp only[qat (qap (Nat.le_max_left n m)) hn]
   exact lv hm (Nat.le_max_right n m)
  ·rename_i fr σ' hx
   obtain⟨n,hn⟩:=qb9 hx
   obtain⟨m,hm⟩:=qf9 h
   refine⟨max n m,?_⟩
   simp only[qat (qap (Nat.le_max_left n m)) hn]
   exact lv hm (Nat.le_max_right n m)
  ·rename_i v fr σ' hx
   obtain⟨n,hn⟩:=qb9 hx
   obtain⟨m,hm⟩:=qgU h
   refine⟨max n m,?_⟩
   simp only[qat (qap (Nat.le_max_left n m)) hn]
   exact qdQ (qap (Nat.le_max_right n m)) hm
  ·cases h
 ·cases h
theorem qdu {f:Nat} {pf:PFun} {args:List V} {σ : S} {r:Res} (hf:prog f=some pf) (hc:pf.catches=false) (h:qa2 (Z prog) pf args σ = some r):Z prog (.call f args σ)=some r:=by
 obtain⟨n,hn⟩:=qfK h
 exact qff (n:=n+1) (by simp only[qaX,hf,hc,Bool.false_eq_true,if_false,hn])
theorem qfL {k:Nat} {b:PC} {fr fr0 fr':Fr} {σ σ0 σ':S} {r:Res} (hg:gcF k fr σ = some (fr0,σ0)) (h:run (Z prog) k b fr0 σ0=some (.normal,fr',σ')) (hr:Z prog (.loop k b fr' σ')=some r):Z prog (.loop k b fr σ)=some r:=by
 obtain⟨n,hn⟩:=qb9 h
 obtain⟨m,hm⟩:=Z_iff.1 hr
 refine qff (n:=max n m+1) ?_
 simp only[qaX,hg,qat (qap (Nat.le_max_left n m)) hn]
 exact qap (Nat.le_max_right n m) _ _ hm
theorem qgu {k:Nat} {b:PC} {fr fr0 fr':Fr} {σ σ0 σ':S} {e:Ex} (he:e ≠ .normal) (hg:gcF k fr σ = some (fr0,σ0)) (h:run (Z prog) k b fr0 σ0=some (e,fr',σ')):Z prog (.loop k b fr σ)=some (.out e fr' σ'):=by
 obtain⟨n,hn⟩:=qb9 h
 refine qff (n:=n+1) ?_
 simp only[qaX,hg,hn]
 all_goals (cases e with
  | normal=>exact absurd rfl he
  | exit id=>rfl
  | ret=>rfl
  | pan v=>rfl)
variable {P:Program} {ids:Ids} {fid:Fid}
def qgV (w:World):Nat->Nat:=fun b=>match w.heap[b]? with
 | some (.cells arr _ _)=>arr.size
 | _=>0
def qcK (w:World):Ctx:=⟨[],fun _=>none,qgV w,w⟩
def GlbAt (fid:Fid) (w:World):Prop := ∀ g cs,fid.gl g=some cs -> ∃ vs,RepDs (qgV w) w cs vs/\Row (qgV w) w g 0 vs
theorem qgv {w:World} (hg:GlbAt fid w):Real fid (qcK w):=by
 refine⟨fun l ob b h=>by simp[qcK] at h,fun l b h=>by simp[qcK] at h,fun l l' b h=>by simp[qcK] at h,fun b hb=>?_,hg⟩
 simp only[qcK,qgV] at hb ⊢
 cases h:w.heap[b]? with
 | none=>rw[h] at hb; simp at hb
 | some o=>
  rw[h] at hb
  cases o<;>simp only at hb<;>first | (exact absurd hb (Nat.lt_irrefl _)) | exact⟨_,_,_,rfl,Nat.le_refl _⟩
theorem calls_of_Z (hid:Ties P ids fid) (hcr:Codes P ids fid) (hm:P.follows .mixedOrders=true) (ht:Tied P ids fid prog) {f:Nat} {args:List V} {xs:List Value} {d:Value} {σ':S} {w:World} (h:Z prog (.call f args [])=some (.ret (.dat (.lit d)) σ')) (hg:GlbAt fid w)
  (ha:Reps fid (qcK w) args xs):Calls P (fid f) xs.toArray w fun e w'=>e = .returned d/\w'.os=w.os/\w'.tape=w.tape/\w'.output=w.output/\w.heap.size<=w'.heap.size /\ ∀ k,k<w.heap.size->w'.heap[k]?=w.heap[k]?:=by
 obtain⟨n,hn⟩:=Z_iff.1 h
 obtain⟨_,hs⟩:=(qep hid hcr hm ht n).1.call _ _ _ _ _ hn
 refine (callsIn_wide.1 (hs (qcK w) xs rfl (qgv hg) ha)).mono ?_
 rintro e w' ⟨Γ',rfl,_,_,h3,hout⟩
 rcases hout with ⟨x,rfl,h4⟩ | ⟨u,x,hu,_⟩
 rotate_left
 ·cases hu
 refine⟨by rw[(qae h4).1],h3.ext.os,h3.ext.tape,h3.ext.output,h3.ext.size,fun k hk=>(h3.frm.same k hk fun l h=>by simp[qcK] at h).1⟩
end Go.Pm
namespace Go.Pm
variable {prog:Nat->Option PFun}
theorem qh9 {α : Type} {a b:Option α} (h : ∀ r,a=some r->b=some r) (k : ∀ r,b=some r->a=some r):a=b:=by
 cases a with
 | some r=>exact (h r rfl).symm
 | none=>cases b with
  | none=>rfl
  | some r=>exact k r rfl
theorem qiU {n:Nat}:Le (qaX prog n) (Z prog):=fun _ _ h=>qff h
def qbf (C:Task->Option Res) (k:Nat) (b:PC):Option (Fr × S)->Option Res
 | some (fr0,σ0)=>match run C k b fr0 σ0 with
  | some (.normal,fr',σ')=>C (.loop k b fr' σ')
  | some (e,fr',σ')=>some (.out e fr' σ')
  | none=>none
 | none=>none
theorem qbj (k:Nat) (b:PC) (fr:Fr) (σ : S):Z prog (.loop k b fr σ)=qbf (Z prog) k b (gcF k fr σ):=by
 refine qh9 (fun r h=>?_) (fun r h=>?_)
 ·obtain⟨n,hn⟩:=Z_iff.1 h
  cases n with
  | zero=>simp[qaX] at hn
  | succ n=>
   simp only[qaX] at hn
   split at hn
   ·grind [qbf,Z,gcF,qat,qiU,qff]
   ·cases hn
 ·grind [qbf,Z,gcF,qfL,qgu]
theorem qga {prog prog':Nat->Option PFun} (hs : ∀ f pf,prog f=some pf->prog' f=some pf) : ∀ n,Le (qaX prog n) (qaX prog' n)
 | 0=>fun t r h=>by simp[qaX] at h
 | n+1=>fun t r h=>by
  have ih:=qga hs n
  cases t with
  | call f args σ=>
   simp only[qaX] at h ⊢
   split at h
   ·grind [Le,qaX,qcW]
   ·cases h
  | dcall f args σ=>
   simp only[qaX] at h ⊢
   split at h
   ·grind [Le,qaX,qcC]
   ·cases h
  | round args σ=>
   simp only[qaX] at h ⊢
   exact qcV ih h
  | loop k b fr σ=>
   simp only[qaX] at h ⊢
   split at h
   ·grind [Le,qaX,qat]
   ·cases h
theorem qj2 {prog prog':Nat->Option PFun} (hs : ∀ f pf,prog f=some pf->prog' f=some pf) {t:Task} {r:Res} (h:Z prog t=some r):Z prog' t=some r:=by
 obtain⟨n,hn⟩:=Z_iff.1 h
 exact qff (qga hs n _ _ hn)
end Go.Pm
end SY
section SS
namespace Go.Pm
attribute [simp] qjl qjW qgA qcd qgM qg1 qg2 qef outV qgf qhu qbR finishV Ob.rows qjm qig appendO appendT qhD qeT V.isStr qgy qc2 qc4 qcG qaz Fr.defs qaL qa9 qc1 undef qa2 qaC run qcb qbl qag qan X.ev evs qbB qcN Fr.get Fr.put Fr.keep qhB unV qhC qbt qh0 qgx qeq V.sealT V.sealv qaD qer reach qal V.locs qfo inL qfp qbQ V.ren one
 gcL gcF qa8 qfQ Ob.locs Ob.ren qeS qiJ idx back qai qaI qaV qaB qhE qeU qbx qbC qci qdX qbk storeV qba qiK Value.oneCell' qaJ V.aggCells qbL qca
@[simp] theorem qj4 (v:Value):V.one (.dat (.lit v))=v.oneCell':=rfl
@[simp] theorem qi9 (v:Value):V.cells (.dat (.lit v))=[(.dat (.lit v))]:=rfl
@[simp] theorem qkp (cs:List D) (n:Nat) (f:Bool):V.one (.dat (.sl cs n f))=true:=rfl
@[simp] theorem qjL (cs:List D) (n:Nat) (f:Bool):V.cells (.dat (.sl cs n f))=[(.dat (.sl cs n f))]:=rfl
@[simp] theorem qj5 (cs:List D) (o:Nat):V.one (.dat (.imm cs o))=true:=rfl
@[simp] theorem qja (cs:List D) (o:Nat):V.cells (.dat (.imm cs o))=[(.dat (.imm cs o))]:=rfl
@[simp] theorem qjM (cs:List D):V.one (.dat (.agg cs))=false:=rfl
@[simp] theorem qiG (cs:List D):V.cells (.dat (.agg cs))=cs.map .dat:=rfl
@[simp] theorem qiH (t:Nat) (d:D):V.one (.dat (.iface t d))=true:=rfl
@[simp] theorem qhY (t:Nat) (d:D):V.cells (.dat (.iface t d))=[(.dat (.iface t d))]:=rfl
@[simp] theorem qj6 (l o:Nat):V.one (.ptr l o)=true:=rfl
@[simp] theorem qjb (l o:Nat):V.cells (.ptr l o)=[(.ptr l o)]:=rfl
@[simp] theorem qj7 (cs:List D) (n sz l:Nat):V.one (.gsl cs n sz l)=true:=rfl
@[simp] theorem qjc (cs:List D) (n sz l:Nat):V.cells (.gsl cs n sz l)=[(.gsl cs n sz l)]:=rfl
@[simp] theorem qj8 (l o n cap sz:Nat):V.one (.msl l o n cap sz)=true:=rfl
@[simp] theorem qjd (l o n cap sz:Nat):V.cells (.msl l o n cap sz)=[(.msl l o n cap sz)]:=rfl
@[simp] theorem qj9 (l n sz:Nat):V.one (.own l n sz)=true:=rfl
@[simp] theorem qje (l n sz:Nat):V.cells (.own l n sz)=[(.own l n sz)]:=rfl
@[simp] theorem qjN (l n o:Nat):V.one (.eptr l n o)=true:=rfl
@[simp] theorem qiI (l n o:Nat):V.cells (.eptr l n o)=[(.eptr l n o)]:=rfl
@[simp] theorem qkq (g:Nat) (v:V):V.one (.bm g v)=true:=rfl
@[simp] theorem qjO (g:Nat) (v:V):V.cells (.bm g v)=[(.bm g v)]:=rfl
@[simp] theorem qka (cs:List V):V.one (.agg cs)=false:=rfl
@[simp] theorem qjf (cs:List V):V.cells (.agg cs)=cs:=rfl
@[simp] theorem qkr (f:Nat) (a b:List V):V.one (.fn f a b)=true:=rfl
@[simp] theorem qjP (f:Nat) (a b:List V):V.cells (.fn f a b)=[(.fn f a b)]:=rfl
@[simp] theorem qks (l:Nat):V.one (.mp l)=true:=rfl
@[simp] theorem qjQ (l:Nat):V.cells (.mp l)=[(.mp l)]:=rfl
@[simp] theorem qjg (t:Nat) (v:V):V.one (.iface t v)=true:=rfl
@[simp] theorem qid (t:Nat) (v:V):V.cells (.iface t v)=[(.iface t v)]:=rfl
@[simp] theorem qkb (vs:List V):V.one (.tup vs)=false:=rfl
@[simp] theorem qjh (vs:List V):V.cells (.tup vs)=[(.tup vs)]:=rfl
@[simp] theorem qkc (l:Nat):V.one (.yld l)=true:=rfl
@[simp] theorem qji (l:Nat):V.cells (.yld l)=[(.yld l)]:=rfl
@[simp] theorem qjR {α : Type} (cs:List α):qam cs 0 0=some []:=by simp[qam]
@[simp] theorem qjS {α : Type} (c : α) (cs:List α) (n:Nat):qam (c::cs) 0 (n+1)=(qam cs 0 n).map (c :: ·):=by grind [qam]
@[simp] theorem qjT {α : Type} (c : α) (cs:List α) (o n:Nat):qam (c::cs) (o+1) n=qam cs o n:=by
 simp only[qam,List.drop_succ_cons]
@[simp] theorem qkd (a b:Int):eqI a b=decide (a=b):=rfl
abbrev I64 (n:Int):Prop := -9223372036854775808<=n/\n<=9223372036854775807
theorem qcD (n:Int) (h : -9223372036854775808<=n/\n<=9223372036854775807):IntKind.i64.wrap n=n:=by rw[IntKind.wrap_i64]; omega
def intsC (xs:List Int):List D:=xs.map fun x => .lit (.int .i64 x)
def qgZ:List Int->D
 | [] => .lit (.slice none 0 0)
 | x::xs => .sl (intsC (x::xs)) (x::xs).length false
@[simp] theorem qjj (σ : S) (xs:List Int):V.len σ .sl (.dat (qgZ xs))=some xs.length:=by
 cases xs<;>simp[qgZ,V.len]
@[simp] theorem qjk (xs:List Int):V.one (.dat (qgZ xs))=true:=by cases xs<;>rfl
@[simp] theorem qie (xs:List Int):V.cells (.dat (qgZ xs))=[.dat (qgZ xs)]:=by cases xs<;>rfl
end Go.Pm
end SS
section SW
namespace Go.Pm
def RowV (v:D) (xs:List Int):Prop:=
 (∃ o,v = .lit (.slice o 0 0)/\xs=[])\/v = .sl (intsC xs) xs.length false
theorem RowV.one {v:D} {xs:List Int} (h:RowV v xs):V.one (.dat v)=true:=by rcases h with ⟨o,rfl,rfl⟩ | rfl<;>rfl
theorem RowV.cells {v:D} {xs:List Int} (h:RowV v xs):V.cells (.dat v)=[.dat v]:=by rcases h with ⟨o,rfl,rfl⟩ | rfl<;>rfl
theorem qfw (F:Nat->Nat) (w:World) : ∀ xs:List Int,RepDs F w (intsC xs) (xs.map (.int .i64))
 | []=>rfl
 | x::xs=>⟨_,_,rfl,⟨rfl,rfl⟩,qfw F w xs⟩
theorem qkf (fid:Fid) {w:World} {a:Option Addr} {len cap:Nat} {zs:List Int}
  (h:(a=none/\len=0/\cap=0/\zs=[]) \/ ∃ x,a=some x/\len<=cap/\cap<=maxLen/\zs.length=cap/\(∀ i,i<zs.length->w.cell? (x.add i)=some (.int .i64 (zs.getD i 0))) /\ ∀ n∈zs,(Lit.int .i64 n).wf=true) :
  ∃ d,RowV d (zs.take len)/\(∀ x∈zs.take len,I64 x)/\Rep fid (qcK w) (.dat d) (.slice a len cap):=by
 rcases h with ⟨rfl,rfl,rfl,rfl⟩ | ⟨x,rfl,h1,h2,h3,h4,h5⟩
 ·exact⟨.lit (.slice none 0 0),.inl ⟨_,rfl,rfl⟩,by simp,rfl,rfl⟩
 by_cases hc:cap=0
 ·subst hc
  have:len=0:=by omega
  subst this
  exact⟨.lit (.slice (some x) 0 0),.inl ⟨_,rfl,by simp⟩,by simp,rfl,rfl⟩
 have hl:(zs.take len).length=len:=by rw[List.length_take]; omega
 have hs:x.spot=none:=World.cell?_spot (v := .int .i64 (zs.getD 0 0)) (by simpa [Addr.add] using h4 0 (by omega))
 obtain⟨b,o,sp⟩:=x
 simp only at hs
 subst hs
 have hcell : ∀ i,i<zs.length->w.cell? ⟨b,o+i,none⟩=some (.int .i64 (zs.getD i 0)):=fun i hi=>by
  have:=h4 i hi
  by_cases h0:i=0
  ·subst h0; simpa [Addr.add] using this
  ·simpa [Addr.add,h0] using this
 refine⟨.sl (intsC (zs.take len)) len false,.inr (by rw[hl]),fun n hn=>?_,b,o,cap,(zs.take len).map (.int .i64),rfl,h1,by simp,qfw _ _ _,?_,?_,?_⟩
 ·have:=h5 n (List.mem_of_mem_take hn)
  simp only[Lit.wf,Bool.and_eq_true,decide_eq_true_eq] at this
  have e1:IntKind.i64.min = -9223372036854775808:=by decide
  have e2:IntKind.i64.max=9223372036854775807:=by decide
  unfold I64
  omega
 ·intro i v hv
  rw[List.getElem?_map,List.getElem?_take] at hv
  split at hv
  ·rename_i hi
   rw[List.getElem?_eq_getElem (by omega)] at hv
   simp only[Option.map_some,Option.some.injEq] at hv
   subst hv
   rw[show (qcK w).w=w from rfl,hcell i (by omega)]
   simp[List.getD_eq_getElem?_getD,show i<zs.length by omega]
  ·simp at hv
 ·intro hp
  simp only[List.length_map,hl] at hp ⊢
  have:=hcell (len-1) (by omega)
  unfold World.cell? at this
  simp only[qcK,qgV]
  split at this
  ·rename_i c _ _ hb
   rw[hb]
   simp only[Option.isSome_none,Bool.false_eq_true,if_false] at this
   have hlt:o+(len-1)<c.size:=by
    rcases Nat.lt_or_ge (o+(len-1)) c.size with h' | h'
    ·exact h'
    ·rw[Array.getElem?_eq_none h'] at this; cases this
   simp only
   omega
  ·cases this
 ·intro v hv
  obtain⟨n,_,rfl⟩:=List.mem_map.1 hv
  rfl
theorem int_rep (fid:Fid) (w:World) (n:Int):Rep fid (qcK w) (.int n) (.int .i64 n):=⟨rfl,rfl⟩
theorem reps_cons {fid:Fid} {Γ : Ctx} {a:V} {x:Value} {as:List V} {xs:List Value} (h:Rep fid Γ a x) (k:Reps fid Γ as xs):Reps fid Γ (a::as) (x::xs):=⟨_,_,rfl,h,k⟩
end Go.Pm
end SW
section SU
namespace Go.Pm
def fl (P:Program):Nat->TypeId->DataW Unit->Option (List Value)
 | 0,_,_=>none
 | m+1,t,d=>match P.underlying t,d with
  | some (.int k),.lit (.int k' n)=>if k=k' then some [.int k n] else none
  | some (.array n e),.agg ds=>match ds.mapM (fl P m e) with
   | some vs=>if ds.length=n/\vs.all (fun v=>v.length==P.cellsOf e)/\P.cellsOf t=n*P.cellsOf e then some vs.flatten else none
   | none=>none
  | some (.struct fs),.agg ds=>match (fs.toList.zip ds).mapM (fun x=>fl P m x.1.type x.2) with
   | some vs=>if ds.length=fs.size/\((fs.toList.zip vs).all (fun x=>x.2.length==P.cellsOf x.1.type))/\(List.range fs.size).all (fun i=>(fs[i]?.map (·.offset)).getD 0==(vs.take i).flatten.length)/\P.cellsOf t=vs.flatten.length then some vs.flatten else none
   | none=>none
  | _,_=>none
theorem parts {α : Type} : ∀ (vs:List (List α)) (cs:List α) (o:Nat),(∀ (i:Nat) (v:List α),vs[i]?=some v->(cs.drop (o+(vs.take i).flatten.length)).take v.length=v)->cs.length=o+vs.flatten.length->cs.drop o=vs.flatten
 | [],cs,o,_,hl=>by simp at hl; simp[hl]
 | v::vs,cs,o,h,hl=>by
  have h0:=h 0 v rfl
  simp only[List.take_zero,List.flatten_nil,List.length_nil,Nat.add_zero] at h0
  have ih:=parts vs cs (o+v.length) (fun i u hu=>by
   have:=h (i+1) u hu
   simpa [Nat.add_assoc] using this) (by rw[List.flatten_cons,List.length_append] at hl; omega)
  rw[List.flatten_cons,<- ih]
  have e:=List.take_append_drop v.length (cs.drop o)
  rw[h0,List.drop_drop] at e
  exact e.symm
theorem qe5 {α β : Type} {f : α -> Option β} : ∀ {l:List α} {r:List β},l.mapM f=some r->r.length=l.length /\ ∀ (i:Nat) (a : α),l[i]?=some a -> ∃ b,r[i]?=some b/\f a=some b
 | [],r,h=>by simp at h; subst h; simp
 | a::l,r,h=>by
  simp only[List.mapM_cons,Option.pure_def,Option.bind_eq_bind,Option.bind_eq_some_iff,Option.some.injEq] at h
  obtain⟨b,hb,r',hr,rfl⟩:=h
  obtain⟨h1,h2⟩:=qe5 hr
  refine⟨by simp[h1],fun i x hx=>?_⟩
  cases i with
  | zero=>simp at hx; subst hx; exact⟨b,rfl,hb⟩
  | succ i=>simpa using h2 i x (by simpa using hx)
theorem qcs {α : Type} (m:Nat) : ∀ (vs:List (List α)) (i:Nat),(∀ v∈vs,v.length=m)->i<=vs.length->(vs.take i).flatten.length=i*m
 | _,0,_,_=>by simp
 | [],i+1,_,h=>by simp at h
 | v::vs,i+1,h,hi=>by
  simp only[List.take_succ_cons,List.flatten_cons,List.length_append]
  rw[qcs m vs i (fun u hu=>h u (List.mem_cons_of_mem _ hu)) (by simpa using hi),h v List.mem_cons_self,Nat.add_mul]
  omega
section
variable {enc:TypeId × Value->Unit} {P:Program} {w:World} {base:Nat} {spare:Nat->Bool} {held:Bool}
theorem qe6 : ∀ (m:Nat) (t:TypeId) (d:DataW Unit) (vs:List Value) (fuel:Nat) (cs:List Value) (p:List MemPlace),fl P m t d=some vs->DataW.trod enc P w base spare held fuel t cs=some (d,p)->cs=vs
 | 0,t,d,vs,fuel,cs,p,h,_=>by simp[fl] at h
 | m+1,t,d,vs,fuel,cs,p,h,ht=>by
  unfold fl at h
  split at h
  ·rename_i k k' n hu
   split at h
   ·rename_i hk
    subst hk
    cases h
    obtain⟨n',rfl,e,_⟩:=DataW.trod_int hu ht
    simp only[Prod.mk.injEq,DataW.lit.injEq,Lit.int.injEq] at e
    rw[e.1.2]
   ·cases h
  ·rename_i n e ds hu
   split at h
   ·rename_i us hus
    split at h
    ·rename_i hc
     cases h
     obtain⟨h1,h2,h3⟩:=hc
     obtain⟨xs,q,rfl,hx,hl,hn,hel⟩:=DataW.trod_array hu ht
     simp only[Prod.mk.injEq,DataW.agg.injEq] at hx
     obtain⟨g1,g2⟩:=qe5 hus
     have hlen : ∀ v∈us,v.length=P.cellsOf e:=fun v hv=>by simpa using List.all_eq_true.1 h2 v hv
     have hp:=parts us cs 0 (fun i v hv=>by
      have hi:i<us.length:=(List.getElem?_eq_some_iff.1 hv).1
      have hfl:=qcs (P.cellsOf e) us i hlen (by omega)
      rw[Nat.zero_add,hfl,hlen v (List.mem_of_getElem? hv)]
      have:=hel i (by omega)
      obtain⟨x,hxi⟩ : ∃ x,xs[i]?=some x:=⟨xs[i]'(by omega),List.getElem?_eq_getElem (by omega)⟩
      rw[hxi] at this
      have hd:ds[i]?=some x.1:=by rw[hx.1]; simp[hxi]
      obtain⟨b,hb,hf⟩:=g2 i _ hd
      rw[hv] at hb
      cases hb
      exact qe6 m e x.1 v q _ x.2 hf this) (by
      have hfl:=qcs (P.cellsOf e) us us.length hlen (by omega)
      rw[List.take_length] at hfl
      rw[hl,h3,hfl,g1,h1]; simp)
     simpa using hp
    ·cases h
   ·cases h
  ·rename_i fs ds hu
   split at h
   ·rename_i us hus
    split at h
    ·rename_i hc
     cases h
     obtain⟨h1,h2,h3,h4⟩:=hc
     obtain⟨xs,q,rfl,hx,hl,hn,hel⟩:=DataW.trod_struct hu ht
     simp only[Prod.mk.injEq,DataW.agg.injEq] at hx
     obtain⟨g1,g2⟩:=qe5 hus
     have gl:us.length=fs.size:=by rw[g1]; simp[h1]
     have hp:=parts us cs 0 (fun i v hv=>by
      have hi:i<us.length:=(List.getElem?_eq_some_iff.1 hv).1
      obtain⟨f,hf⟩ : ∃ f,fs[i]?=some f:=⟨fs[i]'(by omega),Array.getElem?_eq_getElem (by omega)⟩
      have hfl:fs.toList[i]?=some f:=by simpa using hf
      have ho:=List.all_eq_true.1 h3 i (by simp; omega)
      simp only[hf,Option.map_some,Option.getD_some,beq_iff_eq] at ho
      have hz:(fs.toList.zip us)[i]?=some (f,v):=by simp[List.getElem?_zip_eq_some,hfl,hv]
      have hlv:=List.all_eq_true.1 h2 (f,v) (List.mem_of_getElem? hz)
      simp only[beq_iff_eq] at hlv
      rw[Nat.zero_add,<- ho,hlv]
      have:=hel i f hf
      obtain⟨x,hxi⟩ : ∃ x,xs[i]?=some x:=⟨xs[i]'(by omega),List.getElem?_eq_getElem (by omega)⟩
      rw[hxi] at this
      have hd:ds[i]?=some x.1:=by rw[hx.1]; simp[hxi]
      have hz2:(fs.toList.zip ds)[i]?=some (f,x.1):=by simp[List.getElem?_zip_eq_some,hfl,hd]
      obtain⟨b,hb,hf2⟩:=g2 i _ hz2
      rw[hv] at hb
      cases hb
      exact qe6 m f.type x.1 v q _ x.2 hf2 this) (by rw[hl,h4]; simp)
     simpa using hp
    ·cases h
   ·cases h
  ·cases h
end
theorem qdn {F:Nat->Nat} {w:World} : ∀ (vs:List Value),(vs.all fun v=>qaF v)=true->RepDs F w (vs.map .lit) vs
 | [],_=>rfl
 | v::vs,h=>by
  simp only[List.all_cons,Bool.and_eq_true] at h
  exact⟨v,vs,rfl,⟨rfl,h.1⟩,qdn vs h.2⟩
theorem qiA {P:Program} {w:World} {n:String} {d:DataW Unit} {g:Nat} {t:TypeId} {vs:List Value} {m:Nat} (hg:P.globalNamed n=some g) (ht:(P.globals[g]?).map (·.type)=some t)
  (hf:fl P m t d=some vs) (hv:(vs.all fun v=>qaF v&&v.oneCell')=true) (h:laidMet P [(n,d)] w):RepDs (qgV w) w (vs.map .lit) vs/\Row (qgV w) w g 0 vs:=by
 obtain⟨ps,⟨g0,t0,cs,fuel,p,q,hg0,ht0,hvar,hd,_,hps⟩,_,hcell⟩:=h
 obtain rfl:=Option.some.inj (hg.symm.trans hg0)
 obtain rfl:=Option.some.inj (ht.symm.trans ht0)
 have e:=qe6 m t d vs fuel cs.toList p hf hd
 have hc : ∀ i,w.cell? ⟨g,i,none⟩=vs[i]?:=fun i=>by rw[World.var?_cell hg hvar i,<- e]; simp
 refine⟨qdn vs (by
  rw[List.all_eq_true] at hv ⊢
  intro v hvm
  have:=hv v hvm
  simp only[Bool.and_eq_true] at this
  exact this.1),fun i v hi=>by rw[Nat.zero_add,hc,hi],fun hl=>?_,fun v hvm=>?_⟩
 ·have h0:w.cell? ⟨g,vs.length-1,none⟩=some (vs[vs.length-1]'(by omega)):=by rw[hc,List.getElem?_eq_getElem]
  unfold World.cell? at h0
  unfold qgV
  split at h0
  ·rename_i c _ _ hb
   rw[hb]
   simp only[Option.isSome_none,Bool.false_eq_true,if_false] at h0
   have hlt:vs.length-1<c.size:=by
    rcases Nat.lt_or_ge (vs.length-1) c.size with h' | h'
    ·exact h'
    ·rw[Array.getElem?_eq_none h'] at h0; cases h0
   simp only
   omega
  ·cases h0
 ·have:=List.all_eq_true.1 hv v hvm
  simp only[Bool.and_eq_true] at this
  exact this.2
end Go.Pm
end SU
section SU2
namespace Go.Pm
open Go
theorem qge {P:Program} {w:World} {n:String} {d:DataW Unit} : ∀ (L:List (String × DataW Unit)) (ps:List MemPlace),DataW.LaidVars P w L ps->(n,d)∈L ->
  ∃ g t cs fuel p,P.globalNamed n=some g/\(P.globals[g]?).map (·.type)=some t/\w.var? P n=some cs/\DataW.trod (fun _=>()) P w 0 (fun _=>true) false fuel t cs.toList=some (d,p)
 | [],ps,_,hm=>by cases hm
 | (n',d')::r,ps,h,hm=>by
  obtain⟨g,t,cs,fuel,p,q,h1,h2,h3,h4,h5,_⟩:=h
  rcases List.mem_cons.1 hm with e | hm
  ·cases e; exact⟨g,t,cs,fuel,p,h1,h2,h3,h4⟩
  ·exact qge r q h5 hm
theorem glb_of_laids {P:Program} {w:World} {n:String} {d:DataW Unit} {L:List (String × DataW Unit)} {g:Nat} {t:TypeId} {vs:List Value} {m:Nat} (hmem:(n,d)∈L) (hg:P.globalNamed n=some g) (ht:(P.globals[g]?).map (·.type)=some t)
  (hf:fl P m t d=some vs) (hv:(vs.all fun v=>qaF v&&v.oneCell')=true) (h:laidMet P L w):RepDs (qgV w) w (vs.map .lit) vs/\Row (qgV w) w g 0 vs:=by
 obtain⟨ps,hL,_,hcell⟩:=h
 obtain⟨g0,t0,cs,fuel,p,hg0,ht0,hvar,hd⟩:=qge L ps hL hmem
 obtain rfl:=Option.some.inj (hg.symm.trans hg0)
 obtain rfl:=Option.some.inj (ht.symm.trans ht0)
 have e:=qe6 m t d vs fuel cs.toList p hf hd
 have hc : ∀ i,w.cell? ⟨g,i,none⟩=vs[i]?:=fun i=>by rw[World.var?_cell hg hvar i,<- e]; simp
 refine⟨qdn vs (by
  rw[List.all_eq_true] at hv ⊢
  intro v hvm
  have:=hv v hvm
  simp only[Bool.and_eq_true] at this
  exact this.1),fun i v hi=>by rw[Nat.zero_add,hc,hi],fun hl=>?_,fun v hvm=>?_⟩
 ·have h0:w.cell? ⟨g,vs.length-1,none⟩=some (vs[vs.length-1]'(by omega)):=by rw[hc,List.getElem?_eq_getElem]
  unfold World.cell? at h0
  unfold qgV
  split at h0
  ·rename_i c _ _ hb
   rw[hb]
   simp only[Option.isSome_none,Bool.false_eq_true,if_false] at h0
   have hlt:vs.length-1<c.size:=by
    rcases Nat.lt_or_ge (vs.length-1) c.size with h' | h'
    ·exact h'
    ·rw[Array.getElem?_eq_none h'] at h0; cases h0
   simp only
   omega
  ·cases h0
 ·have:=List.all_eq_true.1 hv v hvm
  simp only[Bool.and_eq_true] at this
  exact this.2
end Go.Pm
end SU2
section SW2
namespace Go.Pm
def qgO (xs:List Int):List V:=xs.map fun n=>V.int n
@[simp] theorem qis (xs:List Int):(qgO xs).length=xs.length:=by simp[qgO]
@[simp] theorem qh5 (xs:List Int):(intsC xs).length=xs.length:=by simp[intsC]
@[simp] theorem qiP (xs:List Int):qal (qgO xs)=[]:=by
 induction xs with
 | nil=>rfl
 | cons x xs ih=>simpa [qgO] using ih
@[simp] theorem qjD (r:Nat->Nat) (xs:List Int):qbQ r (qgO xs)=qgO xs:=by
 induction xs with
 | nil=>rfl
 | cons x xs ih=>simpa [qgO] using ih
@[simp] theorem qit (xs:List Int):qaJ (qgO xs)=some (intsC xs):=by
 induction xs with
 | nil=>rfl
 | cons x xs ih=>
  have:qaJ (qgO (x::xs))=match qaJ (qgO xs) with
   | some ds=>some (.lit (.int .i64 x)::ds)
   | none=>none:=rfl
  rw[this,ih]; rfl
@[simp] theorem qhN (xs:List Int):(intsC xs).all (fun d=>V.one (.dat d))=true:=by
 simp[intsC,Value.oneCell']
@[simp] theorem qh6 (xs:List Int):(qgO xs).all V.one=true:=by
 simp[qgO,Value.oneCell']
@[simp] theorem qhO (xs:List Int):(∀ x∈intsC xs,V.one (.dat x)=true):=by
 simp[intsC,Value.oneCell']
def qkv (cs:List Int) (i v:Int):List Int:=cs.set i.toNat v
@[simp] theorem qiu (cs:List Int) (i v:Int):(qkv cs i v).length=cs.length:=by simp[qkv]
def around (n m:Int):Int:=(if n<0 then -(n+1) else n).tmod m
theorem qd9 {n m:Int} (h1:I64 n) (hm:1<=m):0<=around n m/\around n m<m:=by
 unfold around
 split
 ·exact⟨Int.tmod_nonneg _ (by omega),Int.tmod_lt_of_pos _ (by omega)⟩
 ·exact⟨Int.tmod_nonneg _ (by omega),Int.tmod_lt_of_pos _ (by omega)⟩
structure IsRow (d:D) (xs:List Int):Prop where
 len : ∀ σ,V.len σ .sl (.dat d)=some xs.length
 at_ : ∀ i:Int,0<=i->i<xs.length->qay 1 (.dat d) i=some (.dat (.imm (intsC xs) i.toNat))
 one:V.one (.dat d)=true
 cells:V.cells (.dat d)=[.dat d]
theorem qhP (xs:List Int) (f:Bool):IsRow (.sl (intsC xs) xs.length f) xs where
 len:=fun _=>rfl
 at_:=fun i h0 h1=>by simp[qay,h0,h1]
 one:=rfl
 cells:=rfl
theorem qhk (o:Option Addr):IsRow (.lit (.slice o 0 0)) [] where
 len:=fun _=>rfl
 at_:=fun i h0 h1=>by simp at h1; omega
 one:=rfl
 cells:=rfl
theorem qb7 {prog:Nat->Option PFun} {k:Nat} {b:PC} {fr fr':Fr} {σ σ':S} (h:gcF k fr σ = gcF k fr' σ'):Z prog (.loop k b fr σ)=Z prog (.loop k b fr' σ'):=by
 rw[qbj,qbj,h]
@[simp] theorem qkh:Fr.noD []=[]:=rfl
@[simp] theorem qjY (k:Nat) (v:V) (r:Fr):Fr.noD ((k,v)::r)=if k=1000000 then Fr.noD r else (k,v)::Fr.noD r:=by
 simp only[Fr.noD,List.filter_cons,dkey]
 by_cases h:k=1000000<;>simp[h]
end Go.Pm
end SW2
section SX1
namespace Go.Pm
theorem qiO {d:D} {xs:List Int} (h:RowV d xs):IsRow d xs:=by
 rcases h with ⟨o,rfl,rfl⟩ | rfl
 ·exact qhk o
 ·exact qhP xs false
theorem wf_i64 {n:Int} (h:(Lit.int .i64 n).wf=true):I64 n:=by
 simp only[Lit.wf,Bool.and_eq_true,decide_eq_true_eq] at h
 have e1:IntKind.i64.min = -9223372036854775808:=by decide
 have e2:IntKind.i64.max=9223372036854775807:=by decide
 unfold I64
 omega
theorem qkg {w:World} {a:Option Addr} {len cap:Nat} {zs:List Int}
  (h:(a=none/\len=0/\cap=0/\zs=[]) \/ ∃ x,a=some x/\len<=cap/\cap<=maxLen/\zs.length=cap/\(∀ i,i<zs.length->w.cell? (x.add i)=some (.int .i64 (zs.getD i 0))) /\ ∀ n∈zs,(Lit.int .i64 n).wf=true) :
  (zs.take len).length<=9223372036854775807:=by
 rcases h with ⟨rfl,rfl,rfl,rfl⟩ | ⟨x,rfl,h1,h2,h3,h4,h5⟩
 ·simp
 ·have e:maxLen<=9223372036854775807:=by decide
  rw[List.length_take]
  omega
theorem qjX (fid:Fid) (w:World) (b:Bool):Rep fid (qcK w) (.bool b) (.bool b):=⟨rfl,rfl⟩
end Go.Pm
end SX1
section SX3
namespace Go.Pm
open Go
theorem qkm (fid:Fid) (w:World) (s:ByteArray):Rep fid (qcK w) (.str s) (.string s):=⟨rfl,rfl⟩
theorem qjZ (fid:Fid) (w:World) (n:Int):Rep fid (qcK w) (.dat (.lit (.int .u8 n))) (.int .u8 n):=⟨rfl,rfl⟩
theorem qkA {n:Int} (h:(Lit.int .u8 n).wf=true) : ∃ c:Nat,c<256/\n=c:=by
 have:0<=n/\n<256:=by
  simp only[Lit.wf,Bool.and_eq_true,decide_eq_true_eq] at h
  have e1:IntKind.u8.min=0:=by decide
  have e2:IntKind.u8.max=255:=by decide
  omega
 exact⟨n.toNat,by omega,by omega⟩
end Go.Pm
end SX3
section SFX
namespace Go.Pm.F
@[simp] abbrev sN:D := .lit (.slice none 0 0)
@[simp] abbrev eN:D := .lit (.string ⟨#[]⟩)
@[simp] abbrev zN:D := .lit (.int .i64 0)
@[simp] abbrev ii (n:Int):D := .lit (.int .i64 n)
@[simp] abbrev kk (n:Int):X := .c (.int .i64 n)
@[simp] abbrev kT:X := .c (.bool true)
@[simp] abbrev kF:X := .c (.bool false)
@[simp] abbrev jj (d:Nat) (o:O):I:=⟨some d,o,none,[]⟩
@[simp] abbrev jn (o:O):I:=⟨none,o,none,[]⟩
@[simp] abbrev jt (d g:Nat) (o:O):I:=⟨some d,o,some (g,true),[]⟩
@[simp] abbrev jf (d g:Nat) (o:O):I:=⟨some d,o,some (g,false),[]⟩
@[simp] abbrev mv (d a:Nat):I:=⟨some d,.mov (.t a),none,[]⟩
@[simp] abbrev mx (d:Nat) (x:X):I:=⟨some d,.mov x,none,[]⟩
@[simp] abbrev l1 (d a:Nat):I:=⟨some d,.load false 1 (.t a),none,[]⟩
@[simp] abbrev la (d n a:Nat):I:=⟨some d,.load true n (.t a),none,[]⟩
@[simp] abbrev fa (d o a:Nat):I:=⟨some d,.fieldAddr o (.t a),none,[]⟩
@[simp] abbrev nc (d a:Nat):I:=⟨some d,.nilchk (.t a),none,[]⟩
@[simp] abbrev bx (d a:Nat):I:=⟨some d,.box (.t a),none,[]⟩
@[simp] abbrev ex (d a n:Nat):I:=⟨some d,.extract (.t a) n,none,[]⟩
@[simp] abbrev ls (d a:Nat):I:=⟨some d,.len .sl (.t a),none,[]⟩
@[simp] abbrev lz (d a:Nat):I:=⟨some d,.len .str (.t a),none,[]⟩
@[simp] abbrev bn (d:Nat) (o:BinOp) (a b:Nat):I:=⟨some d,.bin o (.t a) (.t b),none,[]⟩
@[simp] abbrev bk (d:Nat) (o:BinOp) (a:Nat) (n:Int):I:=⟨some d,.bin o (.t a) (.c (.int .i64 n)),none,[]⟩
@[simp] abbrev st (n a b:Nat):I:=⟨none,.store n (.t a) (.t b),none,[]⟩
@[simp] abbrev cl (d f:Nat) (xs:List Nat):I:=⟨some d,.call f (xs.map .t),none,[]⟩
@[simp] abbrev rn (ops:List I) (keep:List Nat) (lasts:List Nat:=[]):PC := .region none ops keep lasts
end Go.Pm.F
end SFX
