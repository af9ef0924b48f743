/- Trees of rule programs: expressions, statements, rows of nodes, as the abstract machine's data; names. No program in sight. Chapter 15, plain: what can happen from an instruction on. Chapter 15: the code of trees, as a plain function. -/
import Derived.Test.YtjdbkncfebebnaaDoorPmW
import Derived.Laws.Strings
import Derived.KernelRfl
import Init
set_option linter.unusedSimpArgs false
set_option linter.unusedVariables false
section SEt
namespace Go.Pm
inductive Bop where
 | add | sub | mul | div | lt | le | gt | ge | eq | ne | and | or
def Bop.str : Bop -> ByteArray
 | .add => ⟨#[43]⟩ | .sub => ⟨#[45]⟩ | .mul => ⟨#[42]⟩ | .div => ⟨#[47]⟩
 | .lt => ⟨#[60]⟩ | .le => ⟨#[60, 61]⟩ | .gt => ⟨#[62]⟩ | .ge => ⟨#[62, 61]⟩ | .eq => ⟨#[61, 61]⟩ | .ne => ⟨#[33, 61]⟩
 | .and => ⟨#[38, 38]⟩ | .or => ⟨#[124, 124]⟩
def Bop.opd : Bop -> Int
 | .and | .or => 2
 | _ => 1
def Bop.res : Bop -> Int
 | .add | .sub | .mul | .div => 1
 | _ => 2
def ustr (neg : Bool) : ByteArray := if neg then ⟨#[45]⟩ else ⟨#[33]⟩
inductive E where
 | int (n : Int)
 | bool (n : Int)
 | var (s : ByteArray)
 | name (s : ByteArray)
 | field (f : Bool) (s : ByteArray) (e : E)
 | un (f : Bool) (neg : Bool) (e : E)
 | bin (f : Bool) (o : Bop) (a b : E)
def E.kind : E -> Int
 | .int _ => 8 | .bool _ => 9 | .var _ => 10 | .field .. => 11 | .name _ => 12 | .un .. => 13 | .bin .. => 14
def E.num : E -> Int
 | .int n => n | .bool n => n | _ => 0
def E.str : E -> ByteArray
 | .var s => s | .name s => s | .field _ s _ => s | .un _ neg _ => ustr neg | .bin _ o _ _ => o.str | _ => ⟨#[]⟩
def E.kids : E -> D
 | .field f _ e => .sl [.lit (.int .i64 e.kind), .lit (.int .i64 e.num), .lit (.string e.str), e.kids] 1 f
 | .un f _ e => .sl [.lit (.int .i64 e.kind), .lit (.int .i64 e.num), .lit (.string e.str), e.kids] 1 f
 | .bin f _ a b => .sl [.lit (.int .i64 a.kind), .lit (.int .i64 a.num), .lit (.string a.str), a.kids, .lit (.int .i64 b.kind), .lit (.int .i64 b.num), .lit (.string b.str), b.kids] 2 f
 | _ => .lit (.slice none 0 0)
@[simp] theorem one_kids (e : E) : V.one (.dat e.kids) = true := by cases e <;> rfl
@[simp] theorem cells_kids (e : E) : V.cells (.dat e.kids) = [.dat e.kids] := by cases e <;> rfl
abbrev E.node (e : E) : V := .dat (.agg [.lit (.int .i64 e.kind), .lit (.int .i64 e.num), .lit (.string e.str), e.kids])
def E.size : E -> Nat
 | .field _ _ e => e.size + 1
 | .un _ _ e => e.size + 1
 | .bin _ _ a b => a.size + b.size + 1
 | _ => 1
@[simp] theorem size_int (n : Int) : E.size (.int n) = 1 := rfl
@[simp] theorem size_bool (n : Int) : E.size (.bool n) = 1 := rfl
@[simp] theorem size_var (s : ByteArray) : E.size (.var s) = 1 := rfl
@[simp] theorem size_name (s : ByteArray) : E.size (.name s) = 1 := rfl
@[simp] theorem size_field (f : Bool) (s : ByteArray) (e : E) : E.size (.field f s e) = e.size + 1 := rfl
@[simp] theorem size_un (f neg : Bool) (e : E) : E.size (.un f neg e) = e.size + 1 := rfl
@[simp] theorem size_bin (f : Bool) (o : Bop) (a b : E) : E.size (.bin f o a b) = a.size + b.size + 1 := rfl
def E.ok : E -> Prop
 | .var s => s.size <= 100
 | .field _ _ e => e.ok
 | .un _ _ e => e.ok
 | .bin _ _ a b => a.ok /\ b.ok
 | _ => True
def E.ty : E -> Int
 | .int _ | .var _ | .name _ => 1
 | .bool _ => 2
 | .field _ _ e => if e.ty = 1 then 1 else 0
 | .un _ neg e => if e.ty = (if neg then 1 else 2) then (if neg then 1 else 2) else 0
 | .bin _ o a b => if a.ty = o.opd /\ b.ty = o.opd then o.res else 0
@[simp] theorem kind_int (n : Int) : E.kind (.int n) = 8 := rfl
@[simp] theorem num_int (n : Int) : E.num (.int n) = n := rfl
@[simp] theorem str_int (n : Int) : E.str (.int n) = ⟨#[]⟩ := rfl
@[simp] theorem kids_int (n : Int) : E.kids (.int n) = .lit (.slice none 0 0) := rfl
@[simp] theorem ty_int (n : Int) : E.ty (.int n) = 1 := rfl
@[simp] theorem kind_bool (n : Int) : E.kind (.bool n) = 9 := rfl
@[simp] theorem num_bool (n : Int) : E.num (.bool n) = n := rfl
@[simp] theorem str_bool (n : Int) : E.str (.bool n) = ⟨#[]⟩ := rfl
@[simp] theorem kids_bool (n : Int) : E.kids (.bool n) = .lit (.slice none 0 0) := rfl
@[simp] theorem ty_bool (n : Int) : E.ty (.bool n) = 2 := rfl
@[simp] theorem kind_var (s : ByteArray) : E.kind (.var s) = 10 := rfl
@[simp] theorem num_var (s : ByteArray) : E.num (.var s) = 0 := rfl
@[simp] theorem str_var (s : ByteArray) : E.str (.var s) = s := rfl
@[simp] theorem kids_var (s : ByteArray) : E.kids (.var s) = .lit (.slice none 0 0) := rfl
@[simp] theorem ty_var (s : ByteArray) : E.ty (.var s) = 1 := rfl
@[simp] theorem kind_name (s : ByteArray) : E.kind (.name s) = 12 := rfl
@[simp] theorem num_name (s : ByteArray) : E.num (.name s) = 0 := rfl
@[simp] theorem str_name (s : ByteArray) : E.str (.name s) = s := rfl
@[simp] theorem kids_name (s : ByteArray) : E.kids (.name s) = .lit (.slice none 0 0) := rfl
@[simp] theorem ty_name (s : ByteArray) : E.ty (.name s) = 1 := rfl
@[simp] theorem kind_field (f : Bool) (s : ByteArray) (e : E) : E.kind (.field f s e) = 11 := rfl
@[simp] theorem num_field (f : Bool) (s : ByteArray) (e : E) : E.num (.field f s e) = 0 := rfl
@[simp] theorem str_field (f : Bool) (s : ByteArray) (e : E) : E.str (.field f s e) = s := rfl
@[simp] theorem kids_field (f : Bool) (s : ByteArray) (e : E) : E.kids (.field f s e) = .sl [.lit (.int .i64 e.kind), .lit (.int .i64 e.num), .lit (.string e.str), e.kids] 1 f := rfl
@[simp] theorem ty_field (f : Bool) (s : ByteArray) (e : E) : E.ty (.field f s e) = if e.ty = 1 then 1 else 0 := rfl
@[simp] theorem kind_un (f : Bool) (neg : Bool) (e : E) : E.kind (.un f neg e) = 13 := rfl
@[simp] theorem num_un (f : Bool) (neg : Bool) (e : E) : E.num (.un f neg e) = 0 := rfl
@[simp] theorem str_un (f : Bool) (neg : Bool) (e : E) : E.str (.un f neg e) = ustr neg := rfl
@[simp] theorem kids_un (f : Bool) (neg : Bool) (e : E) : E.kids (.un f neg e) = .sl [.lit (.int .i64 e.kind), .lit (.int .i64 e.num), .lit (.string e.str), e.kids] 1 f := rfl
@[simp] theorem ty_un (f : Bool) (neg : Bool) (e : E) : E.ty (.un f neg e) = if e.ty = (if neg then 1 else 2) then (if neg then 1 else 2) else 0 := rfl
@[simp] theorem kind_bin (f : Bool) (o : Bop) (a b : E) : E.kind (.bin f o a b) = 14 := rfl
@[simp] theorem num_bin (f : Bool) (o : Bop) (a b : E) : E.num (.bin f o a b) = 0 := rfl
@[simp] theorem str_bin (f : Bool) (o : Bop) (a b : E) : E.str (.bin f o a b) = o.str := rfl
@[simp] theorem kids_bin (f : Bool) (o : Bop) (a b : E) : E.kids (.bin f o a b) = .sl [.lit (.int .i64 a.kind), .lit (.int .i64 a.num), .lit (.string a.str), a.kids, .lit (.int .i64 b.kind), .lit (.int .i64 b.num), .lit (.string b.str), b.kids] 2 f := rfl
@[simp] theorem ty_bin (f : Bool) (o : Bop) (a b : E) : E.ty (.bin f o a b) = if a.ty = o.opd /\ b.ty = o.opd then o.res else 0 := rfl

abbrev zeroN : V := .dat (.agg [.lit (.int .i64 0), .lit (.int .i64 0), .lit (.string ⟨#[]⟩), .lit (.slice none 0 0)])
def kd (f : Bool) : Nat -> List D -> D
 | 0, _ => .lit (.slice none 0 0)
 | n + 1, cs => .sl cs (n + 1) f
@[simp] theorem one_kd (f : Bool) (n : Nat) (cs : List D) : V.one (.dat (kd f n cs)) = true := by cases n <;> rfl
@[simp] theorem cells_kd (f : Bool) (n : Nat) (cs : List D) : V.cells (.dat (kd f n cs)) = [.dat (kd f n cs)] := by cases n <;> rfl
@[simp] theorem len_kd (σ : S) (f : Bool) (n : Nat) (cs : List D) : V.len σ .sl (.dat (kd f n cs)) = some n := by cases n <;> simp [kd, V.len]
@[simp] theorem kd_0 (f : Bool) (cs : List D) : kd f 0 cs = .lit (.slice none 0 0) := rfl
@[simp] theorem kd_s (f : Bool) (n : Nat) (cs : List D) : kd f (n + 1) cs = .sl cs (n + 1) f := rfl
inductive Fo where
 | nil
 | cons (k n : Int) (s : ByteArray) (f : Bool) (kids rest : Fo)
def Fo.len : Fo -> Nat
 | .nil => 0
 | .cons _ _ _ _ _ r => r.len + 1
def Fo.cells : Fo -> List D
 | .nil => []
 | .cons k n s f ks r => .lit (.int .i64 k) :: .lit (.int .i64 n) :: .lit (.string s) :: kd f ks.len ks.cells :: r.cells
def Fo.app : Fo -> Fo -> Fo
 | .nil, b => b
 | .cons k n s f ks r, b => .cons k n s f ks (r.app b)
def Fo.size : Fo -> Nat
 | .nil => 0
 | .cons _ _ _ _ ks r => ks.size + r.size + 1
@[simp] theorem fo_len_nil : Fo.len .nil = 0 := rfl
@[simp] theorem fo_len_cons (k n : Int) (s : ByteArray) (f : Bool) (ks r : Fo) : (Fo.cons k n s f ks r).len = r.len + 1 := rfl
@[simp] theorem fo_cells_nil : Fo.cells .nil = [] := rfl
@[simp] theorem fo_cells_cons (k n : Int) (s : ByteArray) (f : Bool) (ks r : Fo) : (Fo.cons k n s f ks r).cells = .lit (.int .i64 k) :: .lit (.int .i64 n) :: .lit (.string s) :: kd f ks.len ks.cells :: r.cells := rfl
@[simp] theorem fo_size_nil : Fo.size .nil = 0 := rfl
@[simp] theorem fo_size_cons (k n : Int) (s : ByteArray) (f : Bool) (ks r : Fo) : (Fo.cons k n s f ks r).size = ks.size + r.size + 1 := rfl
@[simp] theorem fo_app_nil (b : Fo) : Fo.app .nil b = b := rfl
@[simp] theorem fo_app_cons (k n : Int) (s : ByteArray) (f : Bool) (ks r b : Fo) : (Fo.cons k n s f ks r).app b = .cons k n s f ks (r.app b) := rfl
theorem fo_len_app (a b : Fo) : (a.app b).len = a.len + b.len := by induction a with
 | nil => simp
 | cons k n s f ks r _ ih => simp [ih]; omega
theorem fo_cells_app (a b : Fo) : (a.app b).cells = a.cells ++ b.cells := by induction a with
 | nil => simp
 | cons k n s f ks r _ ih => simp [ih]
theorem fo_len_size (a : Fo) : a.len <= a.size := by induction a with
 | nil => simp
 | cons k n s f ks r _ ih => simp; omega
abbrev nd (k n : Int) (s : ByteArray) (f : Bool) (ks : Fo) : V := .dat (.agg [.lit (.int .i64 k), .lit (.int .i64 n), .lit (.string s), kd f ks.len ks.cells])
def Fo.hk : Fo -> Int
 | .nil => 0
 | .cons k _ _ _ _ _ => k
def Fo.hn : Fo -> Int
 | .nil => 0
 | .cons _ n _ _ _ _ => n
def Fo.hs : Fo -> ByteArray
 | .nil => ⟨#[]⟩
 | .cons _ _ s _ _ _ => s
def Fo.hf : Fo -> Bool
 | .nil => false
 | .cons _ _ _ f _ _ => f
def Fo.hks : Fo -> Fo
 | .nil => .nil
 | .cons _ _ _ _ ks _ => ks
def Fo.tl : Fo -> Fo
 | .nil => .nil
 | .cons _ _ _ _ _ r => r
abbrev Fo.hd (a : Fo) : V := nd a.hk a.hn a.hs a.hf a.hks
def E.flag : E -> Bool
 | .field f _ _ => f | .un f _ _ => f | .bin f _ _ _ => f | _ => false
def E.fo : E -> Fo -> Fo
 | .int n, r => .cons 8 n ⟨#[]⟩ false .nil r
 | .bool n, r => .cons 9 n ⟨#[]⟩ false .nil r
 | .var s, r => .cons 10 0 s false .nil r
 | .name s, r => .cons 12 0 s false .nil r
 | .field f s e, r => .cons 11 0 s f (e.fo .nil) r
 | .un f neg e, r => .cons 13 0 (ustr neg) f (e.fo .nil) r
 | .bin f o a b, r => .cons 14 0 o.str f (a.fo (b.fo .nil)) r
def E.kfo : E -> Fo
 | .field _ _ e => e.fo .nil | .un _ _ e => e.fo .nil | .bin _ _ a b => a.fo (b.fo .nil) | _ => .nil
theorem fo_eq (e : E) (r : Fo) : e.fo r = .cons e.kind e.num e.str e.flag e.kfo r := by cases e <;> rfl
theorem kids_eq (e : E) : e.kids = kd e.flag e.kfo.len e.kfo.cells := by
 induction e with
 | field f s e ih =>
   show (E.field f s e).kids = kd f (e.fo .nil).len (e.fo .nil).cells
   rw [fo_eq]
   simp only [kids_field, fo_len_cons, fo_len_nil, kd_s, fo_cells_cons, fo_cells_nil, <- ih]
 | un f neg e ih =>
   show (E.un f neg e).kids = kd f (e.fo .nil).len (e.fo .nil).cells
   rw [fo_eq]
   simp only [kids_un, fo_len_cons, fo_len_nil, kd_s, fo_cells_cons, fo_cells_nil, <- ih]
 | bin f o a b iha ihb =>
   show (E.bin f o a b).kids = kd f (a.fo (b.fo .nil)).len (a.fo (b.fo .nil)).cells
   rw [fo_eq, fo_eq]
   simp only [kids_bin, fo_len_cons, fo_len_nil, kd_s, fo_cells_cons, fo_cells_nil, <- iha, <- ihb]
 | _ => rfl
theorem fo_size (e : E) (r : Fo) : (e.fo r).size = e.size + r.size := by
 induction e generalizing r <;> simp only [E.fo, E.size, fo_size_cons, fo_size_nil, *] <;> omega
@[simp] theorem tl_fo (e : E) (r : Fo) : (e.fo r).tl = r := by rw [fo_eq]; rfl
inductive Ss where
 | nil
 | assign (f : Bool) (s : ByteArray) (e : E) (r : Ss)
 | store (f : Bool) (s : ByteArray) (a b : E) (r : Ss)
 | effect (f : Bool) (a b : E) (r : Ss)
 | stop (r : Ss)
 | cond (w : Bool) (f : Bool) (c : E) (b : Ss) (r : Ss)
 | block (f : Bool) (b : Ss) (r : Ss)
def hitS : ByteArray := ⟨#[104, 105, 116]⟩
def stillS : ByteArray := ⟨#[115, 116, 105, 108, 108]⟩
def Ss.well : Ss -> Bool
 | .nil => true
 | .assign _ _ e r => decide (e.ty = 1) && r.well
 | .store _ s a b r => (!(eqS s hitS || eqS s stillS) && (decide (a.ty = 1) && decide (b.ty = 1))) && r.well
 | .effect _ a b r => (decide (a.ty = 1) && decide (b.ty = 1)) && r.well
 | .stop r => r.well
 | .cond _ _ c b r => (decide (c.ty = 2) && b.well) && r.well
 | .block _ b r => b.well && r.well
def Ss.ok : Ss -> Prop
 | .nil => True
 | .assign _ s e r => s.size <= 100 /\ e.ok /\ r.ok
 | .store _ _ a b r => a.ok /\ b.ok /\ r.ok
 | .effect _ a b r => a.ok /\ b.ok /\ r.ok
 | .stop r => r.ok
 | .cond _ _ c b r => c.ok /\ b.ok /\ r.ok
 | .block _ b r => b.ok /\ r.ok
def Ss.fo : Ss -> Fo
 | .nil => .nil
 | .assign f s e r => .cons 1 0 s f (e.fo .nil) r.fo
 | .store f s a b r => .cons 2 0 s f (a.fo (b.fo .nil)) r.fo
 | .effect f a b r => .cons 5 0 ⟨#[]⟩ f (a.fo (b.fo .nil)) r.fo
 | .stop r => .cons 6 0 ⟨#[]⟩ false .nil r.fo
 | .cond w f c b r => .cons (if w then 4 else 3) 0 ⟨#[]⟩ f (c.fo b.fo) r.fo
 | .block f b r => .cons 7 0 ⟨#[]⟩ f b.fo r.fo
theorem cut4 {cs r : List D} {o : Nat} {a b c d : D} (h : cs.drop o = a :: b :: c :: d :: r) : cutCells cs o 4 = some [a, b, c, d] := by
 unfold cutCells
 rw [h]
 simp
@[simp] theorem hk_fo (e : E) (r : Fo) : (e.fo r).hk = e.kind := by rw [fo_eq]; rfl
@[simp] theorem hn_fo (e : E) (r : Fo) : (e.fo r).hn = e.num := by rw [fo_eq]; rfl
@[simp] theorem hs_fo (e : E) (r : Fo) : (e.fo r).hs = e.str := by rw [fo_eq]; rfl
@[simp] theorem hks_fo (e : E) (r : Fo) : kd (e.fo r).hf (e.fo r).hks.len (e.fo r).hks.cells = e.kids := by rw [fo_eq, kids_eq]; rfl
@[simp] theorem len_fo (e : E) (r : Fo) : (e.fo r).len = r.len + 1 := by rw [fo_eq]; rfl
@[simp] theorem cells_fo (e : E) (r : Fo) : (e.fo r).cells = .lit (.int .i64 e.kind) :: .lit (.int .i64 e.num) :: .lit (.string e.str) :: e.kids :: r.cells := by rw [fo_eq, kids_eq]; rfl
@[simp] theorem hk_nil : Fo.hk .nil = 0 := rfl
@[simp] theorem hn_nil : Fo.hn .nil = 0 := rfl
@[simp] theorem hs_nil : Fo.hs .nil = ⟨#[]⟩ := rfl
@[simp] theorem hf_nil : Fo.hf .nil = false := rfl
@[simp] theorem hks_nil : Fo.hks .nil = .nil := rfl
def strC (ss : List ByteArray) : List D := ss.map fun s => .lit (.string s)
theorem cut_strC (ss : List ByteArray) (i : Nat) (h : i < ss.length) : cutCells (strC ss) i 1 = some [.lit (.string ss[i])] := by
 unfold cutCells strC
 rw [List.drop_eq_getElem_cons (by simpa using h)]
 simp
theorem eqS_iff (a b : ByteArray) : eqS a b = decide (a = b) := by
 rw [Bool.eq_iff_iff]
 simp only [eqS, beq_iff_eq, decide_eq_true_eq, ByteArray.toList_eq]
 exact ⟨fun h => by cases a; cases b; simp only [Array.toList_inj] at h; rw [h], fun h => by rw [h]⟩
instance : LawfulBEq ByteArray where
 eq_of_beq h := by rw [bytes_beq] at h; exact of_decide_eq_true h
 rfl := by intro a; rw [bytes_beq]; exact decide_eq_true rfl
def strD : List ByteArray -> D
 | [] => .lit (.slice none 0 0)
 | s :: l => .sl (strC (s :: l)) (l.length + 1) false
@[simp] theorem one_strD (l : List ByteArray) : V.one (.dat (strD l)) = true := by cases l <;> rfl
@[simp] theorem cells_strD (l : List ByteArray) : V.cells (.dat (strD l)) = [.dat (strD l)] := by cases l <;> rfl
@[simp] theorem len_strD (σ : S) (l : List ByteArray) : V.len σ .sl (.dat (strD l)) = some l.length := by cases l <;> simp [strD, V.len]
@[simp] theorem len_strC (l : List ByteArray) : (strC l).length = l.length := by simp [strC]
def Fo.vars : Fo -> List ByteArray
 | .nil => []
 | .cons k _ s _ ks r => (if k = 1 \/ k = 10 then [s] else []) ++ (ks.vars ++ r.vars)
def addN (l : List ByteArray) (s : ByteArray) : List ByteArray := if s ∈ l then l else l ++ [s]
def addAll (l : List ByteArray) (xs : List ByteArray) : List ByteArray := xs.foldl addN l
theorem addAll_app (l a b : List ByteArray) : addAll l (a ++ b) = addAll (addAll l a) b := by simp [addAll, List.foldl_append]
theorem addN_len (l : List ByteArray) (s : ByteArray) : l.length <= (addN l s).length /\ (addN l s).length <= l.length + 1 := by
 unfold addN
 split <;> simp
theorem addAll_len (xs : List ByteArray) : ∀ l, l.length <= (addAll l xs).length /\ (addAll l xs).length <= l.length + xs.length := by
 induction xs with
 | nil => intro l; simp [addAll]
 | cons x xs ih =>
   intro l
   have := ih (addN l x)
   have h2 := addN_len l x
   simp only [addAll, List.foldl_cons, List.length_cons] at this ⊢
   omega
theorem vars_len (a : Fo) : a.vars.length <= a.size := by
 induction a with
 | nil => simp [Fo.vars]
 | cons k n s f ks r ih1 ih2 =>
   simp only [Fo.vars, List.length_append, fo_size_cons]
   split <;> simp <;> omega
theorem drop_next {cs r : List D} {i : Nat} {a b c d : D} (h : cs.drop (i * 4) = a :: b :: c :: d :: r) : cs.drop ((i + 1) * 4) = r := by
 rw [show (i + 1) * 4 = i * 4 + 4 by omega, <- List.drop_drop, h]
 rfl
theorem strD_ne {l : List ByteArray} (h : l ≠ []) : strD l = .sl (strC l) l.length false := by
 cases l with
 | nil => exact absurd rfl h
 | cons s l => rfl
theorem strC_one (s : ByteArray) : strC [s] = [.lit (.string s)] := rfl
theorem strC_app (a b : List ByteArray) : strC (a ++ b) = strC a ++ strC b := by simp [strC]
structure Nd where
 k : Int
 n : Int
 s : ByteArray
 f : Bool
 ks : Fo
abbrev Nd.v (a : Nd) : V := nd a.k a.n a.s a.f a.ks
def Nd.vars (a : Nd) : List ByteArray := (if a.k = 1 \/ a.k = 10 then [a.s] else []) ++ a.ks.vars
abbrev Nd.d (a : Nd) : D := kd a.f a.ks.len a.ks.cells
theorem nd_vars_len (a : Nd) : a.vars.length <= a.ks.size + 1 := by
 have h := vars_len a.ks
 unfold Nd.vars
 rw [List.length_append]
 split <;> simp <;> omega
abbrev ru (a b c : Nd) : D := .agg [.lit (.int .i64 a.k), .lit (.int .i64 a.n), .lit (.string a.s), a.d, .lit (.int .i64 b.k), .lit (.int .i64 b.n), .lit (.string b.s), b.d, .lit (.int .i64 c.k), .lit (.int .i64 c.n), .lit (.string c.s), c.d]
def rvars (a b c : Nd) : List ByteArray := addAll [] (a.vars ++ (b.vars ++ c.vars))
inductive Hd where
 | none
 | some (f : Bool) (b : Ss)
def Hd.k : Hd -> Int
 | .none => 0
 | .some _ _ => 7
def Hd.f : Hd -> Bool
 | .none => false
 | .some f _ => f
def Hd.ks : Hd -> Fo
 | .none => .nil
 | .some _ b => b.fo
def Hd.nd (h : Hd) : Nd := ⟨h.k, 0, ⟨#[]⟩, h.f, h.ks⟩
@[simp] theorem hd_k (h : Hd) : h.nd.k = h.k := rfl
@[simp] theorem hd_n (h : Hd) : h.nd.n = 0 := rfl
@[simp] theorem hd_s (h : Hd) : h.nd.s = ⟨#[]⟩ := rfl
@[simp] theorem hd_f (h : Hd) : h.nd.f = h.f := rfl
@[simp] theorem hd_ks (h : Hd) : h.nd.ks = h.ks := rfl
def Hd.well : Hd -> Bool
 | .none => true
 | .some _ b => b.well
abbrev rbox (a b c : Nd) : Ob := .cells [.int a.k, .int a.n, .str a.s, .dat a.d, .int b.k, .int b.n, .str b.s, .dat b.d, .int c.k, .int c.n, .str c.s, .dat c.d]
def Ss.app : Ss -> Ss -> Ss
 | .nil, b => b
 | .assign f s e r, b => .assign f s e (r.app b)
 | .store f s x y r, b => .store f s x y (r.app b)
 | .effect f x y r, b => .effect f x y (r.app b)
 | .stop r, b => .stop (r.app b)
 | .cond w f c q r, b => .cond w f c q (r.app b)
 | .block f q r, b => .block f q (r.app b)
theorem ss_app (a b : Ss) : (a.app b).fo = a.fo.app b.fo := by
 induction a <;> simp_all [Ss.app, Ss.fo]
end Go.Pm
end SEt
section SP1
namespace Go.Pm.Gr
abbrev Cd := List (Int × Int)
def popI (op : Int) : Int := if op = 3 \/ op = 4 \/ op = 13 \/ op = 17 \/ op = 19 then 1 else if op = 5 \/ op = 9 \/ op = 10 \/ op = 11 \/ op = 12 \/ op = 14 \/ op = 15 \/ op = 16 \/ op = 20 then 2 else 0
def pushI (op : Int) : Int := if op = 3 \/ op = 5 \/ op = 18 \/ op = 19 \/ op = 20 \/ op = 21 then 0 else 1
theorem popI_rng (op : Int) : 0 <= popI op /\ popI op <= 2 := by unfold popI; split <;> (try split) <;> omega
theorem pushI_rng (op : Int) : 0 <= pushI op /\ pushI op <= 1 := by unfold pushI; split <;> omega
def opA (c : Cd) (i : Nat) : Int := (c.getD i (0, 0)).1
def nA (c : Cd) (i : Nat) : Int := (c.getD i (0, 0)).2
def sucs (c : Cd) (i : Nat) : List Int := if opA c i = 21 then [] else if opA c i = 18 then [nA c i] else if opA c i = 19 then [(i : Int) + 1, nA c i] else [(i : Int) + 1]
def Fits (c : Cd) : Prop := ∀ i, i < c.length -> ∀ j ∈ sucs c i, 0 <= j /\ j <= c.length
def aft (c : Cd) (i : Nat) (d : Int) : Int := d + (pushI (opA c i) - popI (opA c i))
inductive Reach (c : Cd) (e : Nat) : Nat -> Prop
 | here : Reach c e e
 | go {i j : Nat} : Reach c e i -> i < c.length -> (j : Int) ∈ sucs c i -> j < c.length -> Reach c e j
theorem Reach.lt {c : Cd} {e i : Nat} (he : e < c.length) (h : Reach c e i) : i < c.length := by
 cases h with
 | here => exact he
 | go _ _ _ h => exact h
structure CF (c : Cd) (e : Nat) (D : Nat -> Int) : Prop where
 zero : D e = 0
 pops : ∀ i, Reach c e i -> popI (opA c i) <= D i
 step : ∀ i, Reach c e i -> ∀ j : Nat, (j : Int) ∈ sucs c i -> j < c.length -> D j = aft c i (D i)
def Falls (c : Cd) (e : Nat) : Prop := ∃ i, Reach c e i /\ (c.length : Int) ∈ sucs c i
structure Most (c : Cd) (e : Nat) (D : Nat -> Int) (m : Int) : Prop where
 nonneg : 0 <= m
 le : ∀ i, Reach c e i -> aft c i (D i) <= m
 at_ : m = 0 \/ ∃ i, Reach c e i /\ m = aft c i (D i)
theorem Most.unique {c : Cd} {e : Nat} {D : Nat -> Int} {m m' : Int} (h : Most c e D m) (h' : Most c e D m') : m = m' := by
 have a : m <= m' := by
   rcases h.at_ with h0 | ⟨i, hi, h0⟩
   · have := h'.nonneg; omega
   · have := h'.le i hi; omega
 have b : m' <= m := by
   rcases h'.at_ with h0 | ⟨i, hi, h0⟩
   · have := h.nonneg; omega
   · have := h.le i hi; omega
 omega
theorem CF.unique {c : Cd} {e : Nat} {D D' : Nat -> Int} (h : CF c e D) (h' : CF c e D') {i : Nat} (hi : Reach c e i) : D i = D' i := by
 induction hi with
 | here => rw [h.zero, h'.zero]
 | go hi hl hj hjl ih => rw [h.step _ hi _ hj hjl, h'.step _ hi _ hj hjl, ih]
/-! ## the program's way: a list of instructions that are open -/
structure An where
 falls : Bool
 breaks : Bool
 depth : Int
 ds : List Int
 op : List Nat
def gD (l : List Int) (i : Nat) : Int := l.getD i 0
def one (n : Nat) (d : Int) (a : An) (j : Int) : An :=
 if j = n then { a with falls := true }
 else if gD a.ds j.toNat = 0 then { a with ds := a.ds.set j.toNat (max d 0 + 1), op := a.op ++ [j.toNat] }
 else if gD a.ds j.toNat ≠ d + 1 then { a with breaks := true }
 else a
def stp (c : Cd) (a : An) (i : Nat) (r : List Nat) : An :=
 let d := gD a.ds i - 1
 let d' := aft c i d
 (sucs c i).foldl (one c.length d') { a with breaks := a.breaks || decide (d < popI (opA c i)), depth := max a.depth d', op := r }
theorem gD_set_eq {l : List Int} {i : Nat} {v : Int} (h : i < l.length) : gD (l.set i v) i = v := by
 simp [gD, List.getD_eq_getElem?_getD, h]
theorem gD_set_ne {l : List Int} {i j : Nat} {v : Int} (h : i ≠ j) : gD (l.set i v) j = gD l j := by
 simp only [gD, List.getD_eq_getElem?_getD]
 rw [List.getElem?_set_ne h]
structure Inv (c : Cd) (e : Nat) (cur : Option Nat) (pre : List Int) (a : An) : Prop where
 len : a.ds.length = c.length
 nodup : a.op.Nodup
 opn : ∀ i ∈ a.op, i < c.length /\ gD a.ds i ≠ 0
 pos : ∀ i, i < c.length -> gD a.ds i ≠ 0 -> 1 <= gD a.ds i /\ Reach c e i
 ent : gD a.ds e = 1
 cur_ : ∀ i, cur = some i -> i < c.length /\ gD a.ds i ≠ 0 /\ i ∉ a.op
 done : ∀ i, i < c.length -> gD a.ds i ≠ 0 -> i ∉ a.op -> ∀ j ∈ (if cur = some i then pre else sucs c i), (j = c.length -> a.falls = true) /\ (j < c.length -> gD a.ds j.toNat ≠ 0)
 fal : a.falls = true -> Falls c e
 brk : a.breaks = false -> ∀ i, i < c.length -> gD a.ds i ≠ 0 -> i ∉ a.op -> popI (opA c i) <= gD a.ds i - 1 /\ ∀ j ∈ (if cur = some i then pre else sucs c i), j < c.length -> gD a.ds j.toNat = aft c i (gD a.ds i - 1) + 1
 cf : ∀ D, CF c e D -> a.breaks = false /\ ∀ i, i < c.length -> gD a.ds i ≠ 0 -> gD a.ds i = D i + 1
 dle : 0 <= a.depth /\ ∀ i, i < c.length -> gD a.ds i ≠ 0 -> i ∉ a.op -> aft c i (gD a.ds i - 1) <= a.depth
 dat : a.depth = 0 \/ ∃ i, i < c.length /\ gD a.ds i ≠ 0 /\ i ∉ a.op /\ a.depth = aft c i (gD a.ds i - 1)
theorem one_inv {c : Cd} {e i : Nat} {pre : List Int} {j : Int} {a : An} (h : Inv c e (some i) pre a) (hs : j ∈ sucs c i) (hj : 0 <= j /\ j <= c.length) :
   Inv c e (some i) (pre ++ [j]) (one c.length (aft c i (gD a.ds i - 1)) a j) /\ gD (one c.length (aft c i (gD a.ds i - 1)) a j).ds i = gD a.ds i := by
 obtain ⟨hi1, hi2, hi3⟩ := h.cur_ i rfl
 obtain ⟨hp1, hp2⟩ := h.pos i hi1 hi2
 unfold one
 by_cases hn : j = c.length
 · rw [if_pos hn]
   refine ⟨⟨h.len, h.nodup, h.opn, h.pos, h.ent, h.cur_, ?_, fun _ => ⟨i, hp2, by rw [<- hn]; exact hs⟩, ?_, h.cf, h.dle, h.dat⟩, rfl⟩
   · intro k k1 k2 k3 x hx
     have := h.done k k1 k2 k3
     by_cases hk : some i = some k
     · rw [if_pos hk] at hx this
       rcases List.mem_append.1 hx with hx | hx
       · exact ⟨fun _ => rfl, (this x hx).2⟩
       · simp only [List.mem_singleton] at hx
         exact ⟨fun _ => rfl, fun hl => by omega⟩
     · rw [if_neg hk] at hx this
       exact ⟨fun _ => rfl, (this x hx).2⟩
   · intro hb k k1 k2 k3
     have := h.brk hb k k1 k2 k3
     refine ⟨this.1, fun x hx hl => ?_⟩
     by_cases hk : some i = some k
     · rw [if_pos hk] at hx
       rw [if_pos hk] at this
       rcases List.mem_append.1 hx with hx | hx
       · exact this.2 x hx hl
       · simp only [List.mem_singleton] at hx; omega
     · rw [if_neg hk] at hx this
       exact this.2 x hx hl
 · rw [if_neg hn]
   have hjl : j.toNat < c.length := by omega
   have hjs : ((j.toNat : Nat) : Int) ∈ sucs c i := by rw [show ((j.toNat : Nat) : Int) = j by omega]; exact hs
   have hjr : Reach c e j.toNat := Reach.go hp2 hi1 hjs hjl
   by_cases h0 : gD a.ds j.toNat = 0
   · rw [if_pos h0]
     have hij : j.toNat ≠ i := fun hh => hi2 (by rw [<- hh]; exact h0)
     have hjo : j.toNat ∉ a.op := fun hh => (h.opn _ hh).2 h0
     have hnew : gD (a.ds.set j.toNat (max (aft c i (gD a.ds i - 1)) 0 + 1)) j.toNat = max (aft c i (gD a.ds i - 1)) 0 + 1 := gD_set_eq (by rw [h.len]; exact hjl)
     have hold : ∀ k, k ≠ j.toNat -> gD (a.ds.set j.toNat (max (aft c i (gD a.ds i - 1)) 0 + 1)) k = gD a.ds k := fun k hk => gD_set_ne (Ne.symm hk)
     have hge : ∀ k, gD a.ds k ≠ 0 -> gD (a.ds.set j.toNat (max (aft c i (gD a.ds i - 1)) 0 + 1)) k = gD a.ds k := fun k hk => hold k (fun hh => hk (by rw [hh]; exact h0))
     generalize hV : a.ds.set j.toNat (max (aft c i (gD a.ds i - 1)) 0 + 1) = V at *
     -- what is reached and not open now was so before
     have back : ∀ k, gD V k ≠ 0 -> k ∉ a.op ++ [j.toNat] -> gD a.ds k ≠ 0 /\ k ∉ a.op /\ gD V k = gD a.ds k := fun k k2 k3 => by
       have hk : k ≠ j.toNat := fun hh => k3 (by rw [hh]; simp)
       rw [hold k hk] at k2
       exact ⟨k2, fun hh => k3 (by simp [hh]), hold k hk⟩
     refine ⟨⟨by simp only; rw [<- hV]; simp [h.len], ?_, ?_, ?_, ?_, ?_, ?_, h.fal, ?_, ?_, ?_, ?_⟩, hold i (Ne.symm hij)⟩
     · simp only
       rw [List.nodup_append]
       exact ⟨h.nodup, by simp, fun x hx y hy => by simp only [List.mem_singleton] at hy; rw [hy]; exact fun hh => hjo (by rw [<- hh]; exact hx)⟩
     · intro k hk
       simp only at hk ⊢
       rcases List.mem_append.1 hk with hk | hk
       · have := h.opn k hk
         exact ⟨this.1, by rw [hge k this.2]; exact this.2⟩
       · simp only [List.mem_singleton] at hk
         rw [hk, hnew]
         exact ⟨hjl, by omega⟩
     · intro k k1 k2
       simp only at k2 ⊢
       by_cases hk : k = j.toNat
       · rw [hk, hnew]; exact ⟨by omega, hjr⟩
       · rw [hold k hk] at k2 ⊢; exact h.pos k k1 k2
     · simp only; rw [hge e (by rw [h.ent]; omega)]; exact h.ent
     · intro k hk
       have := h.cur_ k hk
       simp only
       refine ⟨this.1, by rw [hge k this.2.1]; exact this.2.1, ?_⟩
       rw [List.mem_append, not_or]
       refine ⟨this.2.2, ?_⟩
       simp only [List.mem_singleton]
       intro hh
       exact this.2.1 (by rw [hh]; exact h0)
     · intro k k1 k2 k3 x hx
       simp only at k2 k3 ⊢
       obtain ⟨b1, b2, b3⟩ := back k k2 k3
       have := h.done k k1 b1 b2
       by_cases hk : some i = some k
       · rw [if_pos hk] at hx this
         rcases List.mem_append.1 hx with hx | hx
         · exact ⟨(this x hx).1, fun hl => by rw [hge _ ((this x hx).2 hl)]; exact (this x hx).2 hl⟩
         · simp only [List.mem_singleton] at hx
           exact ⟨fun hh => absurd (hx ▸ hh) hn, fun _ => by rw [hx, hnew]; omega⟩
       · rw [if_neg hk] at hx this
         exact ⟨(this x hx).1, fun hl => by rw [hge _ ((this x hx).2 hl)]; exact (this x hx).2 hl⟩
     · intro hb k k1 k2 k3
       simp only at hb k2 k3 ⊢
       obtain ⟨b1, b2, b3⟩ := back k k2 k3
       have hbr := h.brk hb k k1 b1 b2
       have hdo := h.done k k1 b1 b2
       rw [b3]
       refine ⟨hbr.1, fun x hx hl => ?_⟩
       by_cases hk : some i = some k
       · rw [if_pos hk] at hx hbr hdo
         rcases List.mem_append.1 hx with hx | hx
         · rw [hge _ ((hdo x hx).2 hl)]; exact hbr.2 x hx hl
         · simp only [List.mem_singleton] at hx
           have hik : i = k := Option.some.inj hk
           subst hik
           have := pushI_rng (opA c i)
           rw [hx, hnew]
           have hh := hbr.1
           unfold aft
           omega
       · rw [if_neg hk] at hx hbr hdo
         rw [hge _ ((hdo x hx).2 hl)]; exact hbr.2 x hx hl
     · intro D hD
       obtain ⟨c1, c2⟩ := h.cf D hD
       refine ⟨c1, fun k k1 k2 => ?_⟩
       simp only at k2 ⊢
       by_cases hk : k = j.toNat
       · rw [hk, hnew, hD.step i hp2 j.toNat hjs hjl]
         have hDi : gD a.ds i = D i + 1 := c2 i hi1 hi2
         rw [show gD a.ds i - 1 = D i by omega]
         have := hD.pops i hp2
         have := pushI_rng (opA c i)
         unfold aft
         omega
       · rw [hold k hk] at k2 ⊢; exact c2 k k1 k2
     · refine ⟨h.dle.1, fun k k1 k2 k3 => ?_⟩
       simp only at k2 k3 ⊢
       obtain ⟨b1, b2, b3⟩ := back k k2 k3
       rw [b3]; exact h.dle.2 k k1 b1 b2
     · rcases h.dat with hd | ⟨k, k1, k2, k3, k4⟩
       · exact .inl hd
       · refine .inr ⟨k, k1, by simp only; rw [hge k k2]; exact k2, ?_, by simp only; rw [hge k k2]; exact k4⟩
         simp only
         rw [List.mem_append, not_or]
         refine ⟨k3, ?_⟩
         simp only [List.mem_singleton]
         intro hh
         exact k2 (by rw [hh]; exact h0)
   · rw [if_neg h0]
     by_cases hd : gD a.ds j.toNat ≠ aft c i (gD a.ds i - 1) + 1
     · rw [if_pos hd]
       refine ⟨⟨h.len, h.nodup, h.opn, h.pos, h.ent, h.cur_, ?_, h.fal, fun hb => by simp at hb, ?_, h.dle, h.dat⟩, rfl⟩
       · intro k k1 k2 k3 x hx
         have := h.done k k1 k2 k3
         by_cases hk : some i = some k
         · rw [if_pos hk] at hx this
           rcases List.mem_append.1 hx with hx | hx
           · exact this x hx
           · simp only [List.mem_singleton] at hx
             exact ⟨fun hh => absurd (hx ▸ hh) hn, fun _ => by rw [hx]; exact h0⟩
         · rw [if_neg hk] at hx this
           exact this x hx
       · intro D hD
         exfalso
         obtain ⟨c1, c2⟩ := h.cf D hD
         apply hd
         rw [c2 j.toNat hjl h0, hD.step i hp2 j.toNat hjs hjl, c2 i hi1 hi2, show D i + 1 - 1 = D i by omega]
     · rw [if_neg hd]
       have hd' : gD a.ds j.toNat = aft c i (gD a.ds i - 1) + 1 := by omega
       refine ⟨⟨h.len, h.nodup, h.opn, h.pos, h.ent, h.cur_, ?_, h.fal, ?_, h.cf, h.dle, h.dat⟩, rfl⟩
       · intro k k1 k2 k3 x hx
         have := h.done k k1 k2 k3
         by_cases hk : some i = some k
         · rw [if_pos hk] at hx this
           rcases List.mem_append.1 hx with hx | hx
           · exact this x hx
           · simp only [List.mem_singleton] at hx
             exact ⟨fun hh => absurd (hx ▸ hh) hn, fun _ => by rw [hx]; exact h0⟩
         · rw [if_neg hk] at hx this
           exact this x hx
       · intro hb k k1 k2 k3
         have := h.brk hb k k1 k2 k3
         refine ⟨this.1, fun x hx hl => ?_⟩
         by_cases hk : some i = some k
         · rw [if_pos hk] at hx
           rw [if_pos hk] at this
           rcases List.mem_append.1 hx with hx | hx
           · exact this.2 x hx hl
           · simp only [List.mem_singleton] at hx
             have hik : i = k := Option.some.inj hk
             subst hik
             rw [hx]; exact hd'
         · rw [if_neg hk] at hx this
           exact this.2 x hx hl
end Go.Pm.Gr
end SP1
section SCa
namespace Go.Pm
open Gr
def ixI : List ByteArray -> ByteArray -> Int
 | [], _ => -1
 | x :: l, s => if x = s then 0 else if ixI l s < 0 then -1 else ixI l s + 1
def fieldNs : List ByteArray := [⟨#[120]⟩, ⟨#[121]⟩, ⟨#[118, 120]⟩, ⟨#[118, 121]⟩, ⟨#[97]⟩, ⟨#[98]⟩, ⟨#[104, 105, 116]⟩, ⟨#[115, 116, 105, 108, 108]⟩]
def fieldI (s : ByteArray) : Int := ixI fieldNs s
def nameI (s : ByteArray) : Int := if s = ⟨#[115, 101, 108, 102]⟩ then 6 else if s = ⟨#[111, 116, 104, 101, 114]⟩ then 7 else 8
def opI : Bop -> Int
 | .add => 9 | .sub => 10 | .mul => 11 | .div => 12
 | .lt => 14 | .gt => 14 | .le => 15 | .ge => 15
 | _ => 16
def sq (a b : Int -> Cd) (at_ : Int) : Cd := a at_ ++ b (at_ + (a at_).length)
def brC (c a b : Int -> Cd) (at_ : Int) : Cd :=
 c at_ ++ ((19, at_ + (c at_).length + 1 + (a (at_ + (c at_).length + 1)).length + 1) :: (a (at_ + (c at_).length + 1) ++
   ((18, at_ + (c at_).length + 1 + (a (at_ + (c at_).length + 1)).length + 1 + (b (at_ + (c at_).length + 1 + (a (at_ + (c at_).length + 1)).length + 1)).length) ::
     b (at_ + (c at_).length + 1 + (a (at_ + (c at_).length + 1)).length + 1))))
def whC (c a : Int -> Cd) (at_ : Int) : Cd :=
 c at_ ++ ((19, at_ + (c at_).length + 1 + (a (at_ + (c at_).length + 1)).length + 1) :: (a (at_ + (c at_).length + 1) ++ [(18, at_)]))
def snC (c : Int -> Cd) (i : Int × Int) (at_ : Int) : Cd := c at_ ++ [i]
def binC (o : Bop) (a b : Int -> Cd) : Int -> Cd :=
 match o with
 | .and => brC a b (fun _ => [(1, 0)])
 | .or => brC a (fun _ => [(1, 1)]) b
 | .gt => snC (sq b a) (14, 0)
 | .ge => snC (sq b a) (15, 0)
 | .ne => snC (snC (sq a b) (16, 0)) (17, 0)
 | o => snC (sq a b) (opI o, 0)
def codeE (vs : List ByteArray) : E -> Int -> Cd
 | .int n => fun _ => [(1, n)]
 | .bool n => fun _ => [(1, n)]
 | .var s => fun _ => [(2, ixI vs s)]
 | .name s => fun _ => [(nameI s, 0)]
 | .field _ s e => snC (codeE vs e) (4, fieldI s)
 | .un _ neg e => snC (codeE vs e) (if neg then 13 else 17, 0)
 | .bin _ o a b => binC o (codeE vs a) (codeE vs b)
def codeS (vs : List ByteArray) : Ss -> Int -> Cd
 | .nil => fun _ => []
 | .assign _ s e r => sq (snC (codeE vs e) (3, ixI vs s)) (codeS vs r)
 | .store _ s a b r => sq (snC (sq (codeE vs a) (codeE vs b)) (5, fieldI s)) (codeS vs r)
 | .effect _ a b r => sq (snC (sq (codeE vs a) (codeE vs b)) (20, 0)) (codeS vs r)
 | .stop r => sq (fun _ => [(21, 0)]) (codeS vs r)
 | .cond false _ c (.block _ x (.block _ y .nil)) r => sq (brC (codeE vs c) (codeS vs x) (codeS vs y)) (codeS vs r)
 | .cond true _ c (.block _ x .nil) r => sq (whC (codeE vs c) (codeS vs x)) (codeS vs r)
 | _ => fun _ => []
def Ln (C : Int -> Cd) (n : Nat) : Prop := ∀ p, (C p).length = n
theorem ln_sq {a b : Int -> Cd} {n m : Nat} (ha : Ln a n) (hb : Ln b m) : Ln (sq a b) (n + m) := fun p => by simp [sq, ha p, hb _]
theorem ln_sn {c : Int -> Cd} {i : Int × Int} {n : Nat} (h : Ln c n) : Ln (snC c i) (n + 1) := fun p => by simp [snC, h p]
theorem ln_br {c a b : Int -> Cd} {n m k : Nat} (hc : Ln c n) (ha : Ln a m) (hb : Ln b k) : Ln (brC c a b) (n + m + k + 2) := fun p => by simp [brC, hc p, ha _, hb _]; omega
theorem ln_wh {c a : Int -> Cd} {n m : Nat} (hc : Ln c n) (ha : Ln a m) : Ln (whC c a) (n + m + 2) := fun p => by simp [whC, hc p, ha _]; omega
theorem ln_bin {o : Bop} {a b : Int -> Cd} {n m : Nat} (ha : Ln a n) (hb : Ln b m) : ∃ k, Ln (binC o a b) k /\ n + m + 1 <= k /\ k <= n + m + 3 /\ 0 < k := by
 cases o
 case and =>
   have h1 : Ln (fun _ => [((1 : Int), (0 : Int))]) 1 := fun _ => rfl
   exact ⟨_, ln_br ha hb h1, by omega, by omega, by omega⟩
 case or =>
   have h1 : Ln (fun _ => [((1 : Int), (1 : Int))]) 1 := fun _ => rfl
   exact ⟨_, ln_br ha h1 hb, by omega, by omega, by omega⟩
 case gt => exact ⟨_, ln_sn (ln_sq hb ha), by omega, by omega, by omega⟩
 case ge => exact ⟨_, ln_sn (ln_sq hb ha), by omega, by omega, by omega⟩
 case ne => exact ⟨_, ln_sn (ln_sn (ln_sq ha hb)), by omega, by omega, by omega⟩
 all_goals exact ⟨_, ln_sn (ln_sq ha hb), by omega, by omega, by omega⟩
theorem ln_E (vs : List ByteArray) : ∀ e : E, ∃ n, Ln (codeE vs e) n /\ 0 < n /\ n <= 4 * e.size
 | .int _ => ⟨1, fun _ => rfl, by omega, by simp⟩
 | .bool _ => ⟨1, fun _ => rfl, by omega, by simp⟩
 | .var _ => ⟨1, fun _ => rfl, by omega, by simp⟩
 | .name _ => ⟨1, fun _ => rfl, by omega, by simp⟩
 | .field _ s e => by
   obtain ⟨n, h, h0, h1⟩ := ln_E vs e
   exact ⟨n + 1, ln_sn h, by omega, by simp; omega⟩
 | .un _ neg e => by
   obtain ⟨n, h, h0, h1⟩ := ln_E vs e
   exact ⟨n + 1, ln_sn h, by omega, by simp; omega⟩
 | .bin _ o a b => by
   obtain ⟨n, h, h0, h1⟩ := ln_E vs a
   obtain ⟨m, g, g0, g1⟩ := ln_E vs b
   obtain ⟨k, k1, k2, k3, k4⟩ := ln_bin (o := o) h g
   exact ⟨k, k1, k4, by simp; omega⟩
theorem ln_S (vs : List ByteArray) (b : Ss) : ∃ n, Ln (codeS vs b) n /\ n <= 4 * b.fo.size := by
 fun_induction codeS vs b with
 | case1 => exact ⟨0, fun _ => rfl, by omega⟩
 | case2 _ s e r ih =>
   obtain ⟨n, h, h0, h1⟩ := ln_E vs e
   obtain ⟨m, g, g1⟩ := ih
   exact ⟨_, ln_sq (ln_sn h) g, by simp only [Ss.fo, fo_size_cons, fo_size, fo_size_nil]; omega⟩
 | case3 _ s a b r ih =>
   obtain ⟨n, h, h0, h1⟩ := ln_E vs a
   obtain ⟨n', h', h0', h1'⟩ := ln_E vs b
   obtain ⟨m, g, g1⟩ := ih
   exact ⟨_, ln_sq (ln_sn (ln_sq h h')) g, by simp only [Ss.fo, fo_size_cons, fo_size, fo_size_nil]; omega⟩
 | case4 _ a b r ih =>
   obtain ⟨n, h, h0, h1⟩ := ln_E vs a
   obtain ⟨n', h', h0', h1'⟩ := ln_E vs b
   obtain ⟨m, g, g1⟩ := ih
   exact ⟨_, ln_sq (ln_sn (ln_sq h h')) g, by simp only [Ss.fo, fo_size_cons, fo_size, fo_size_nil]; omega⟩
 | case5 r ih =>
   obtain ⟨m, g, g1⟩ := ih
   exact ⟨_, ln_sq (n := 1) (fun _ => rfl) g, by simp only [Ss.fo, fo_size_cons, fo_size_nil]; omega⟩
 | case6 _ c _ x _ y r ih1 ih2 ih3 =>
   obtain ⟨n, h, h0, h1⟩ := ln_E vs c
   obtain ⟨m1, g1, k1⟩ := ih1
   obtain ⟨m2, g2, k2⟩ := ih2
   obtain ⟨m3, g3, k3⟩ := ih3
   exact ⟨_, ln_sq (ln_br h g1 g2) g3, by simp only [Ss.fo, fo_size_cons, fo_size, fo_size_nil]; omega⟩
 | case7 _ c _ x r ih1 ih2 =>
   obtain ⟨n, h, h0, h1⟩ := ln_E vs c
   obtain ⟨m1, g1, k1⟩ := ih1
   obtain ⟨m2, g2, k2⟩ := ih2
   exact ⟨_, ln_sq (ln_wh h g1) g2, by simp only [Ss.fo, fo_size_cons, fo_size, fo_size_nil]; omega⟩
 | case8 => exact ⟨0, fun _ => rfl, by omega⟩
end Go.Pm
end SCa
