/- Trees of rule programs: expressions, statements, rows of nodes, as the abstract machine's data; names. No program in sight. Rows of names: the reference's search. The reference's names. The code's names: a round of the range. The code's names: visit. The code's Variables, first part. The code's Variables. The reference's Variables. -/
import Derived.Test.YtdnnjabacgpfdaaGreatDoorPmW2
import Derived.Laws.Strings
import Derived.KernelRfl
import Derived.Test.YtdnnjabacgpfdaaGreatDoorPmTb14
set_option linter.unusedSimpArgs false
set_option linter.unusedVariables false
section SEt
namespace Go.Pm
inductive Bop where
 | add | sub | mul | div | lt | le | gt | ge | eq | ne | and | or
def Bop.str : Bop -> ByteArray
 | .add => ⟨#[43]⟩ | .sub => ⟨#[45]⟩ | .mul => ⟨#[42]⟩ | .div => ⟨#[47]⟩
 | .lt => ⟨#[60]⟩ | .le => ⟨#[60, 61]⟩ | .gt => ⟨#[62]⟩ | .ge => ⟨#[62, 61]⟩ | .eq => ⟨#[61, 61]⟩ | .ne => ⟨#[33, 61]⟩
 | .and => ⟨#[38, 38]⟩ | .or => ⟨#[124, 124]⟩
def Bop.opd : Bop -> Int
 | .and | .or => 2
 | _ => 1
def Bop.res : Bop -> Int
 | .add | .sub | .mul | .div => 1
 | _ => 2
def ustr (neg : Bool) : ByteArray := if neg then ⟨#[45]⟩ else ⟨#[33]⟩
inductive E where
 | int (n : Int)
 | bool (n : Int)
 | var (s : ByteArray)
 | name (s : ByteArray)
 | field (f : Bool) (s : ByteArray) (e : E)
 | un (f : Bool) (neg : Bool) (e : E)
 | bin (f : Bool) (o : Bop) (a b : E)
def E.kind : E -> Int
 | .int _ => 8 | .bool _ => 9 | .var _ => 10 | .field .. => 11 | .name _ => 12 | .un .. => 13 | .bin .. => 14
def E.num : E -> Int
 | .int n => n | .bool n => n | _ => 0
def E.str : E -> ByteArray
 | .var s => s | .name s => s | .field _ s _ => s | .un _ neg _ => ustr neg | .bin _ o _ _ => o.str | _ => ⟨#[]⟩
def E.kids : E -> D
 | .field f _ e => .sl [.lit (.int .i64 e.kind), .lit (.int .i64 e.num), .lit (.string e.str), e.kids] 1 f
 | .un f _ e => .sl [.lit (.int .i64 e.kind), .lit (.int .i64 e.num), .lit (.string e.str), e.kids] 1 f
 | .bin f _ a b => .sl [.lit (.int .i64 a.kind), .lit (.int .i64 a.num), .lit (.string a.str), a.kids, .lit (.int .i64 b.kind), .lit (.int .i64 b.num), .lit (.string b.str), b.kids] 2 f
 | _ => .lit (.slice none 0 0)
@[simp] theorem one_kids (e : E) : V.one (.dat e.kids) = true := by cases e <;> rfl
@[simp] theorem cells_kids (e : E) : V.cells (.dat e.kids) = [.dat e.kids] := by cases e <;> rfl
abbrev E.node (e : E) : V := .dat (.agg [.lit (.int .i64 e.kind), .lit (.int .i64 e.num), .lit (.string e.str), e.kids])
def E.size : E -> Nat
 | .field _ _ e => e.size + 1
 | .un _ _ e => e.size + 1
 | .bin _ _ a b => a.size + b.size + 1
 | _ => 1
@[simp] theorem size_int (n : Int) : E.size (.int n) = 1 := rfl
@[simp] theorem size_bool (n : Int) : E.size (.bool n) = 1 := rfl
@[simp] theorem size_var (s : ByteArray) : E.size (.var s) = 1 := rfl
@[simp] theorem size_name (s : ByteArray) : E.size (.name s) = 1 := rfl
@[simp] theorem size_field (f : Bool) (s : ByteArray) (e : E) : E.size (.field f s e) = e.size + 1 := rfl
@[simp] theorem size_un (f neg : Bool) (e : E) : E.size (.un f neg e) = e.size + 1 := rfl
@[simp] theorem size_bin (f : Bool) (o : Bop) (a b : E) : E.size (.bin f o a b) = a.size + b.size + 1 := rfl
def E.ok : E -> Prop
 | .var s => s.size <= 100
 | .field _ _ e => e.ok
 | .un _ _ e => e.ok
 | .bin _ _ a b => a.ok /\ b.ok
 | _ => True
def E.ty : E -> Int
 | .int _ | .var _ | .name _ => 1
 | .bool _ => 2
 | .field _ _ e => if e.ty = 1 then 1 else 0
 | .un _ neg e => if e.ty = (if neg then 1 else 2) then (if neg then 1 else 2) else 0
 | .bin _ o a b => if a.ty = o.opd /\ b.ty = o.opd then o.res else 0
@[simp] theorem kind_int (n : Int) : E.kind (.int n) = 8 := rfl
@[simp] theorem num_int (n : Int) : E.num (.int n) = n := rfl
@[simp] theorem str_int (n : Int) : E.str (.int n) = ⟨#[]⟩ := rfl
@[simp] theorem kids_int (n : Int) : E.kids (.int n) = .lit (.slice none 0 0) := rfl
@[simp] theorem ty_int (n : Int) : E.ty (.int n) = 1 := rfl
@[simp] theorem kind_bool (n : Int) : E.kind (.bool n) = 9 := rfl
@[simp] theorem num_bool (n : Int) : E.num (.bool n) = n := rfl
@[simp] theorem str_bool (n : Int) : E.str (.bool n) = ⟨#[]⟩ := rfl
@[simp] theorem kids_bool (n : Int) : E.kids (.bool n) = .lit (.slice none 0 0) := rfl
@[simp] theorem ty_bool (n : Int) : E.ty (.bool n) = 2 := rfl
@[simp] theorem kind_var (s : ByteArray) : E.kind (.var s) = 10 := rfl
@[simp] theorem num_var (s : ByteArray) : E.num (.var s) = 0 := rfl
@[simp] theorem str_var (s : ByteArray) : E.str (.var s) = s := rfl
@[simp] theorem kids_var (s : ByteArray) : E.kids (.var s) = .lit (.slice none 0 0) := rfl
@[simp] theorem ty_var (s : ByteArray) : E.ty (.var s) = 1 := rfl
@[simp] theorem kind_name (s : ByteArray) : E.kind (.name s) = 12 := rfl
@[simp] theorem num_name (s : ByteArray) : E.num (.name s) = 0 := rfl
@[simp] theorem str_name (s : ByteArray) : E.str (.name s) = s := rfl
@[simp] theorem kids_name (s : ByteArray) : E.kids (.name s) = .lit (.slice none 0 0) := rfl
@[simp] theorem ty_name (s : ByteArray) : E.ty (.name s) = 1 := rfl
@[simp] theorem kind_field (f : Bool) (s : ByteArray) (e : E) : E.kind (.field f s e) = 11 := rfl
@[simp] theorem num_field (f : Bool) (s : ByteArray) (e : E) : E.num (.field f s e) = 0 := rfl
@[simp] theorem str_field (f : Bool) (s : ByteArray) (e : E) : E.str (.field f s e) = s := rfl
@[simp] theorem kids_field (f : Bool) (s : ByteArray) (e : E) : E.kids (.field f s e) = .sl [.lit (.int .i64 e.kind), .lit (.int .i64 e.num), .lit (.string e.str), e.kids] 1 f := rfl
@[simp] theorem ty_field (f : Bool) (s : ByteArray) (e : E) : E.ty (.field f s e) = if e.ty = 1 then 1 else 0 := rfl
@[simp] theorem kind_un (f : Bool) (neg : Bool) (e : E) : E.kind (.un f neg e) = 13 := rfl
@[simp] theorem num_un (f : Bool) (neg : Bool) (e : E) : E.num (.un f neg e) = 0 := rfl
@[simp] theorem str_un (f : Bool) (neg : Bool) (e : E) : E.str (.un f neg e) = ustr neg := rfl
@[simp] theorem kids_un (f : Bool) (neg : Bool) (e : E) : E.kids (.un f neg e) = .sl [.lit (.int .i64 e.kind), .lit (.int .i64 e.num), .lit (.string e.str), e.kids] 1 f := rfl
@[simp] theorem ty_un (f : Bool) (neg : Bool) (e : E) : E.ty (.un f neg e) = if e.ty = (if neg then 1 else 2) then (if neg then 1 else 2) else 0 := rfl
@[simp] theorem kind_bin (f : Bool) (o : Bop) (a b : E) : E.kind (.bin f o a b) = 14 := rfl
@[simp] theorem num_bin (f : Bool) (o : Bop) (a b : E) : E.num (.bin f o a b) = 0 := rfl
@[simp] theorem str_bin (f : Bool) (o : Bop) (a b : E) : E.str (.bin f o a b) = o.str := rfl
@[simp] theorem kids_bin (f : Bool) (o : Bop) (a b : E) : E.kids (.bin f o a b) = .sl [.lit (.int .i64 a.kind), .lit (.int .i64 a.num), .lit (.string a.str), a.kids, .lit (.int .i64 b.kind), .lit (.int .i64 b.num), .lit (.string b.str), b.kids] 2 f := rfl
@[simp] theorem ty_bin (f : Bool) (o : Bop) (a b : E) : E.ty (.bin f o a b) = if a.ty = o.opd /\ b.ty = o.opd then o.res else 0 := rfl

abbrev zeroN : V := .dat (.agg [.lit (.int .i64 0), .lit (.int .i64 0), .lit (.string ⟨#[]⟩), .lit (.slice none 0 0)])
def kd (f : Bool) : Nat -> List D -> D
 | 0, _ => .lit (.slice none 0 0)
 | n + 1, cs => .sl cs (n + 1) f
@[simp] theorem one_kd (f : Bool) (n : Nat) (cs : List D) : V.one (.dat (kd f n cs)) = true := by cases n <;> rfl
@[simp] theorem cells_kd (f : Bool) (n : Nat) (cs : List D) : V.cells (.dat (kd f n cs)) = [.dat (kd f n cs)] := by cases n <;> rfl
@[simp] theorem len_kd (σ : S) (f : Bool) (n : Nat) (cs : List D) : V.len σ .sl (.dat (kd f n cs)) = some n := by cases n <;> simp [kd, V.len]
@[simp] theorem kd_0 (f : Bool) (cs : List D) : kd f 0 cs = .lit (.slice none 0 0) := rfl
@[simp] theorem kd_s (f : Bool) (n : Nat) (cs : List D) : kd f (n + 1) cs = .sl cs (n + 1) f := rfl
inductive Fo where
 | nil
 | cons (k n : Int) (s : ByteArray) (f : Bool) (kids rest : Fo)
def Fo.len : Fo -> Nat
 | .nil => 0
 | .cons _ _ _ _ _ r => r.len + 1
def Fo.cells : Fo -> List D
 | .nil => []
 | .cons k n s f ks r => .lit (.int .i64 k) :: .lit (.int .i64 n) :: .lit (.string s) :: kd f ks.len ks.cells :: r.cells
def Fo.app : Fo -> Fo -> Fo
 | .nil, b => b
 | .cons k n s f ks r, b => .cons k n s f ks (r.app b)
def Fo.size : Fo -> Nat
 | .nil => 0
 | .cons _ _ _ _ ks r => ks.size + r.size + 1
@[simp] theorem fo_len_nil : Fo.len .nil = 0 := rfl
@[simp] theorem fo_len_cons (k n : Int) (s : ByteArray) (f : Bool) (ks r : Fo) : (Fo.cons k n s f ks r).len = r.len + 1 := rfl
@[simp] theorem fo_cells_nil : Fo.cells .nil = [] := rfl
@[simp] theorem fo_cells_cons (k n : Int) (s : ByteArray) (f : Bool) (ks r : Fo) : (Fo.cons k n s f ks r).cells = .lit (.int .i64 k) :: .lit (.int .i64 n) :: .lit (.string s) :: kd f ks.len ks.cells :: r.cells := rfl
@[simp] theorem fo_size_nil : Fo.size .nil = 0 := rfl
@[simp] theorem fo_size_cons (k n : Int) (s : ByteArray) (f : Bool) (ks r : Fo) : (Fo.cons k n s f ks r).size = ks.size + r.size + 1 := rfl
@[simp] theorem fo_app_nil (b : Fo) : Fo.app .nil b = b := rfl
@[simp] theorem fo_app_cons (k n : Int) (s : ByteArray) (f : Bool) (ks r b : Fo) : (Fo.cons k n s f ks r).app b = .cons k n s f ks (r.app b) := rfl
theorem fo_len_app (a b : Fo) : (a.app b).len = a.len + b.len := by induction a with
 | nil => simp
 | cons k n s f ks r _ ih => simp [ih]; omega
theorem fo_cells_app (a b : Fo) : (a.app b).cells = a.cells ++ b.cells := by induction a with
 | nil => simp
 | cons k n s f ks r _ ih => simp [ih]
theorem fo_size_app (a b : Fo) : (a.app b).size = a.size + b.size := by induction a with
 | nil => simp
 | cons k n s f ks r _ ih => simp [ih]; omega
theorem fo_cells_len (a : Fo) : a.cells.length = a.len * 4 := by induction a with
 | nil => simp
 | cons k n s f ks r _ ih => simp [ih]; omega
theorem fo_len_size (a : Fo) : a.len <= a.size := by induction a with
 | nil => simp
 | cons k n s f ks r _ ih => simp; omega
abbrev nd (k n : Int) (s : ByteArray) (f : Bool) (ks : Fo) : V := .dat (.agg [.lit (.int .i64 k), .lit (.int .i64 n), .lit (.string s), kd f ks.len ks.cells])
def Fo.hk : Fo -> Int
 | .nil => 0
 | .cons k _ _ _ _ _ => k
def Fo.hn : Fo -> Int
 | .nil => 0
 | .cons _ n _ _ _ _ => n
def Fo.hs : Fo -> ByteArray
 | .nil => ⟨#[]⟩
 | .cons _ _ s _ _ _ => s
def Fo.hf : Fo -> Bool
 | .nil => false
 | .cons _ _ _ f _ _ => f
def Fo.hks : Fo -> Fo
 | .nil => .nil
 | .cons _ _ _ _ ks _ => ks
def Fo.tl : Fo -> Fo
 | .nil => .nil
 | .cons _ _ _ _ _ r => r
abbrev Fo.hd (a : Fo) : V := nd a.hk a.hn a.hs a.hf a.hks
def E.flag : E -> Bool
 | .field f _ _ => f | .un f _ _ => f | .bin f _ _ _ => f | _ => false
def E.fo : E -> Fo -> Fo
 | .int n, r => .cons 8 n ⟨#[]⟩ false .nil r
 | .bool n, r => .cons 9 n ⟨#[]⟩ false .nil r
 | .var s, r => .cons 10 0 s false .nil r
 | .name s, r => .cons 12 0 s false .nil r
 | .field f s e, r => .cons 11 0 s f (e.fo .nil) r
 | .un f neg e, r => .cons 13 0 (ustr neg) f (e.fo .nil) r
 | .bin f o a b, r => .cons 14 0 o.str f (a.fo (b.fo .nil)) r
def E.kfo : E -> Fo
 | .field _ _ e => e.fo .nil | .un _ _ e => e.fo .nil | .bin _ _ a b => a.fo (b.fo .nil) | _ => .nil
theorem fo_eq (e : E) (r : Fo) : e.fo r = .cons e.kind e.num e.str e.flag e.kfo r := by cases e <;> rfl
theorem kids_eq (e : E) : e.kids = kd e.flag e.kfo.len e.kfo.cells := by
 induction e with
 | field f s e ih =>
   show (E.field f s e).kids = kd f (e.fo .nil).len (e.fo .nil).cells
   rw [fo_eq]
   simp only [kids_field, fo_len_cons, fo_len_nil, kd_s, fo_cells_cons, fo_cells_nil, <- ih]
 | un f neg e ih =>
   show (E.un f neg e).kids = kd f (e.fo .nil).len (e.fo .nil).cells
   rw [fo_eq]
   simp only [kids_un, fo_len_cons, fo_len_nil, kd_s, fo_cells_cons, fo_cells_nil, <- ih]
 | bin f o a b iha ihb =>
   show (E.bin f o a b).kids = kd f (a.fo (b.fo .nil)).len (a.fo (b.fo .nil)).cells
   rw [fo_eq, fo_eq]
   simp only [kids_bin, fo_len_cons, fo_len_nil, kd_s, fo_cells_cons, fo_cells_nil, <- iha, <- ihb]
 | _ => rfl
theorem fo_size (e : E) (r : Fo) : (e.fo r).size = e.size + r.size := by
 induction e generalizing r <;> simp only [E.fo, E.size, fo_size_cons, fo_size_nil, *] <;> omega
@[simp] theorem tl_fo (e : E) (r : Fo) : (e.fo r).tl = r := by rw [fo_eq]; rfl
inductive Ss where
 | nil
 | assign (f : Bool) (s : ByteArray) (e : E) (r : Ss)
 | store (f : Bool) (s : ByteArray) (a b : E) (r : Ss)
 | effect (f : Bool) (a b : E) (r : Ss)
 | stop (r : Ss)
 | cond (w : Bool) (f : Bool) (c : E) (b : Ss) (r : Ss)
 | block (f : Bool) (b : Ss) (r : Ss)
def hitS : ByteArray := ⟨#[104, 105, 116]⟩
def stillS : ByteArray := ⟨#[115, 116, 105, 108, 108]⟩
def Ss.well : Ss -> Bool
 | .nil => true
 | .assign _ _ e r => decide (e.ty = 1) && r.well
 | .store _ s a b r => (!(eqS s hitS || eqS s stillS) && (decide (a.ty = 1) && decide (b.ty = 1))) && r.well
 | .effect _ a b r => (decide (a.ty = 1) && decide (b.ty = 1)) && r.well
 | .stop r => r.well
 | .cond _ _ c b r => (decide (c.ty = 2) && b.well) && r.well
 | .block _ b r => b.well && r.well
def Ss.ok : Ss -> Prop
 | .nil => True
 | .assign _ s e r => s.size <= 100 /\ e.ok /\ r.ok
 | .store _ _ a b r => a.ok /\ b.ok /\ r.ok
 | .effect _ a b r => a.ok /\ b.ok /\ r.ok
 | .stop r => r.ok
 | .cond _ _ c b r => c.ok /\ b.ok /\ r.ok
 | .block _ b r => b.ok /\ r.ok
def Ss.fo : Ss -> Fo
 | .nil => .nil
 | .assign f s e r => .cons 1 0 s f (e.fo .nil) r.fo
 | .store f s a b r => .cons 2 0 s f (a.fo (b.fo .nil)) r.fo
 | .effect f a b r => .cons 5 0 ⟨#[]⟩ f (a.fo (b.fo .nil)) r.fo
 | .stop r => .cons 6 0 ⟨#[]⟩ false .nil r.fo
 | .cond w f c b r => .cons (if w then 4 else 3) 0 ⟨#[]⟩ f (c.fo b.fo) r.fo
 | .block f b r => .cons 7 0 ⟨#[]⟩ f b.fo r.fo
theorem cut4 {cs r : List D} {o : Nat} {a b c d : D} (h : cs.drop o = a :: b :: c :: d :: r) : cutCells cs o 4 = some [a, b, c, d] := by
 unfold cutCells
 rw [h]
 simp
@[simp] theorem hk_fo (e : E) (r : Fo) : (e.fo r).hk = e.kind := by rw [fo_eq]; rfl
@[simp] theorem hn_fo (e : E) (r : Fo) : (e.fo r).hn = e.num := by rw [fo_eq]; rfl
@[simp] theorem hs_fo (e : E) (r : Fo) : (e.fo r).hs = e.str := by rw [fo_eq]; rfl
@[simp] theorem hks_fo (e : E) (r : Fo) : kd (e.fo r).hf (e.fo r).hks.len (e.fo r).hks.cells = e.kids := by rw [fo_eq, kids_eq]; rfl
@[simp] theorem len_fo (e : E) (r : Fo) : (e.fo r).len = r.len + 1 := by rw [fo_eq]; rfl
@[simp] theorem cells_fo (e : E) (r : Fo) : (e.fo r).cells = .lit (.int .i64 e.kind) :: .lit (.int .i64 e.num) :: .lit (.string e.str) :: e.kids :: r.cells := by rw [fo_eq, kids_eq]; rfl
@[simp] theorem hk_nil : Fo.hk .nil = 0 := rfl
@[simp] theorem hn_nil : Fo.hn .nil = 0 := rfl
@[simp] theorem hs_nil : Fo.hs .nil = ⟨#[]⟩ := rfl
@[simp] theorem hf_nil : Fo.hf .nil = false := rfl
@[simp] theorem hks_nil : Fo.hks .nil = .nil := rfl
def strC (ss : List ByteArray) : List D := ss.map fun s => .lit (.string s)
theorem cut_strC (ss : List ByteArray) (i : Nat) (h : i < ss.length) : cutCells (strC ss) i 1 = some [.lit (.string ss[i])] := by
 unfold cutCells strC
 rw [List.drop_eq_getElem_cons (by simpa using h)]
 simp
theorem eqS_iff (a b : ByteArray) : eqS a b = decide (a = b) := by
 rw [Bool.eq_iff_iff]
 simp only [eqS, beq_iff_eq, decide_eq_true_eq, ByteArray.toList_eq]
 exact ⟨fun h => by cases a; cases b; simp only [Array.toList_inj] at h; rw [h], fun h => by rw [h]⟩
instance : LawfulBEq ByteArray where
 eq_of_beq h := by rw [bytes_beq] at h; exact of_decide_eq_true h
 rfl := by intro a; rw [bytes_beq]; exact decide_eq_true rfl
def strD : List ByteArray -> D
 | [] => .lit (.slice none 0 0)
 | s :: l => .sl (strC (s :: l)) (l.length + 1) false
@[simp] theorem one_strD (l : List ByteArray) : V.one (.dat (strD l)) = true := by cases l <;> rfl
@[simp] theorem cells_strD (l : List ByteArray) : V.cells (.dat (strD l)) = [.dat (strD l)] := by cases l <;> rfl
@[simp] theorem len_strD (σ : S) (l : List ByteArray) : V.len σ .sl (.dat (strD l)) = some l.length := by cases l <;> simp [strD, V.len]
@[simp] theorem len_strC (l : List ByteArray) : (strC l).length = l.length := by simp [strC]
def StrV (v : V) (σ : S) (l : List ByteArray) : Prop :=
 (∃ f, v = .dat (.sl (strC l) l.length f) /\ σ = []) \/ (v = .dat (.lit (.slice none 0 0)) /\ l = [] /\ σ = []) \/ ∃ m, v = .gsl (strC l) l.length 1 0 /\ σ = [.tip m]
theorem strV_strD (l : List ByteArray) : StrV (.dat (strD l)) [] l := by
 cases l with
 | nil => exact .inr (.inl ⟨rfl, rfl, rfl⟩)
 | cons s l => exact .inl ⟨false, rfl, rfl⟩
def Fo.vars : Fo -> List ByteArray
 | .nil => []
 | .cons k _ s _ ks r => (if k = 1 \/ k = 10 then [s] else []) ++ (ks.vars ++ r.vars)
def addN (l : List ByteArray) (s : ByteArray) : List ByteArray := if s ∈ l then l else l ++ [s]
def addAll (l : List ByteArray) (xs : List ByteArray) : List ByteArray := xs.foldl addN l
theorem addAll_app (l a b : List ByteArray) : addAll l (a ++ b) = addAll (addAll l a) b := by simp [addAll, List.foldl_append]
theorem addN_len (l : List ByteArray) (s : ByteArray) : l.length <= (addN l s).length /\ (addN l s).length <= l.length + 1 := by
 unfold addN
 split <;> simp
theorem addAll_len (xs : List ByteArray) : ∀ l, l.length <= (addAll l xs).length /\ (addAll l xs).length <= l.length + xs.length := by
 induction xs with
 | nil => intro l; simp [addAll]
 | cons x xs ih =>
   intro l
   have := ih (addN l x)
   have h2 := addN_len l x
   simp only [addAll, List.foldl_cons, List.length_cons] at this ⊢
   omega
theorem vars_len (a : Fo) : a.vars.length <= a.size := by
 induction a with
 | nil => simp [Fo.vars]
 | cons k n s f ks r ih1 ih2 =>
   simp only [Fo.vars, List.length_append, fo_size_cons]
   split <;> simp <;> omega
theorem drop_next {cs r : List D} {i : Nat} {a b c d : D} (h : cs.drop (i * 4) = a :: b :: c :: d :: r) : cs.drop ((i + 1) * 4) = r := by
 rw [show (i + 1) * 4 = i * 4 + 4 by omega, <- List.drop_drop, h]
 rfl
theorem strD_ne {l : List ByteArray} (h : l ≠ []) : strD l = .sl (strC l) l.length false := by
 cases l with
 | nil => exact absurd rfl h
 | cons s l => rfl
theorem strC_one (s : ByteArray) : strC [s] = [.lit (.string s)] := rfl
theorem strC_app (a b : List ByteArray) : strC (a ++ b) = strC a ++ strC b := by simp [strC]
structure Nd where
 k : Int
 n : Int
 s : ByteArray
 f : Bool
 ks : Fo
abbrev Nd.v (a : Nd) : V := nd a.k a.n a.s a.f a.ks
def Nd.vars (a : Nd) : List ByteArray := (if a.k = 1 \/ a.k = 10 then [a.s] else []) ++ a.ks.vars
abbrev Nd.d (a : Nd) : D := kd a.f a.ks.len a.ks.cells
theorem nd_vars_len (a : Nd) : a.vars.length <= a.ks.size + 1 := by
 have h := vars_len a.ks
 unfold Nd.vars
 rw [List.length_append]
 split <;> simp <;> omega
abbrev ru (a b c : Nd) : D := .agg [.lit (.int .i64 a.k), .lit (.int .i64 a.n), .lit (.string a.s), a.d, .lit (.int .i64 b.k), .lit (.int .i64 b.n), .lit (.string b.s), b.d, .lit (.int .i64 c.k), .lit (.int .i64 c.n), .lit (.string c.s), c.d]
def rvars (a b c : Nd) : List ByteArray := addAll [] (a.vars ++ (b.vars ++ c.vars))
inductive Hd where
 | none
 | some (f : Bool) (b : Ss)
def Hd.k : Hd -> Int
 | .none => 0
 | .some _ _ => 7
def Hd.f : Hd -> Bool
 | .none => false
 | .some f _ => f
def Hd.ks : Hd -> Fo
 | .none => .nil
 | .some _ b => b.fo
def Hd.nd (h : Hd) : Nd := ⟨h.k, 0, ⟨#[]⟩, h.f, h.ks⟩
@[simp] theorem hd_k (h : Hd) : h.nd.k = h.k := rfl
@[simp] theorem hd_n (h : Hd) : h.nd.n = 0 := rfl
@[simp] theorem hd_s (h : Hd) : h.nd.s = ⟨#[]⟩ := rfl
@[simp] theorem hd_f (h : Hd) : h.nd.f = h.f := rfl
@[simp] theorem hd_ks (h : Hd) : h.nd.ks = h.ks := rfl
def Hd.well : Hd -> Bool
 | .none => true
 | .some _ b => b.well
abbrev rbox (a b c : Nd) : Ob := .cells [.int a.k, .int a.n, .str a.s, .dat a.d, .int b.k, .int b.n, .str b.s, .dat b.d, .int c.k, .int c.n, .str c.s, .dat c.d]
def Ss.app : Ss -> Ss -> Ss
 | .nil, b => b
 | .assign f s e r, b => .assign f s e (r.app b)
 | .store f s x y r, b => .store f s x y (r.app b)
 | .effect f x y r, b => .effect f x y (r.app b)
 | .stop r, b => .stop (r.app b)
 | .cond w f c q r, b => .cond w f c q (r.app b)
 | .block f q r, b => .block f q (r.app b)
theorem ss_app (a b : Ss) : (a.app b).fo = a.fo.app b.fo := by
 induction a <;> simp_all [Ss.app, Ss.fo]
theorem app_assoc (a b c : Fo) : (a.app b).app c = a.app (b.app c) := by
 induction a <;> simp_all
theorem app_nil (a : Fo) : a.app .nil = a := by
 induction a <;> simp_all
end Go.Pm
end SEt
section SE2
namespace Go.Pm
open F
def inR (v : V) (s : ByteArray) (n : Nat) (σ : S) (b : Bool) : Option Res :=
 some (if b then .out .ret [(4, .bool true)] σ else .out (.exit 0) [(0, v), (1, .str s), (5, .int n), (9, .bool false)] σ)
theorem in_end {v : V} {σ : S} {l : List ByteArray} (h : StrV v σ l) (s : ByteArray) : Z base14v (.loop σ.length F28l0 [(0, v), (1, .str s), (5, .int l.length)] σ) = inR v s l.length σ false := by
 rw [Z_loop_eq]
 rcases h with ⟨f, rfl, rfl⟩ | ⟨rfl, rfl, rfl⟩ | ⟨m, rfl, rfl⟩
 · simp [loopStep, run_F28l0, inR, V.len]
 · simp [loopStep, run_F28l0, inR, V.len]
 · simp [loopStep, run_F28l0, inR, V.len]
theorem in_step {v : V} {σ : S} {l : List ByteArray} (h : StrV v σ l) (s : ByteArray) (i : Nat) (hi : i < l.length) (hl : l.length < 2^40) (b : Bool)
   (ih : Z base14v (.loop σ.length F28l0 [(0, v), (1, .str s), (5, .int (i + 1 : Nat))] σ) = inR v s l.length σ b) : Z base14v (.loop σ.length F28l0 [(0, v), (1, .str s), (5, .int i)] σ) = inR v s l.length σ (decide (l[i] = s) || b) := by
 have hc := cut_strC l i hi
 have w1 := wrap64 ((i : Int) + 1) (by omega)
 rw [Z_loop_eq]
 by_cases he : l[i] = s
 · have he' := (eqS_iff l[i] s).trans (decide_eq_true he)
   rw [decide_eq_true he, Bool.true_or]
   rcases h with ⟨f, rfl, rfl⟩ | ⟨rfl, rfl, rfl⟩ | ⟨m, rfl, rfl⟩
   · simp [loopStep, run_F28l0, inR, V.len, sliceAddr, hi, hc, he']
   · simp at hi
   · simp [loopStep, run_F28l0, inR, V.len, sliceAddr, hi, hc, he']
 · have he' := (eqS_iff l[i] s).trans (decide_eq_false he)
   rw [decide_eq_false he, Bool.false_or, <- ih]
   rcases h with ⟨f, rfl, rfl⟩ | ⟨rfl, rfl, rfl⟩ | ⟨m, rfl, rfl⟩
   · simp [loopStep, run_F28l0, inR, V.len, sliceAddr, hi, hc, he', w1]
   · simp at hi
   · simp [loopStep, run_F28l0, inR, V.len, sliceAddr, hi, hc, he', w1]
theorem in_loop {v : V} {σ : S} {l : List ByteArray} (h : StrV v σ l) (hl : l.length < 2^40) (s : ByteArray) : ∀ (n i : Nat), i + n = l.length -> Z base14v (.loop σ.length F28l0 [(0, v), (1, .str s), (5, .int i)] σ) = inR v s l.length σ (decide (s ∈ l.drop i))
 | 0, i, hn => by
   obtain rfl : i = l.length := by omega
   rw [List.drop_length]
   exact in_end h s
 | n + 1, i, hn => by
   have ih := in_loop h hl s n (i + 1) (by omega)
   have := in_step h s i (by omega) hl _ ih
   rw [this, List.drop_eq_getElem_cons (by omega : i < l.length)]
   congr 1
   rw [Bool.eq_iff_iff]
   simp only [Bool.or_eq_true, decide_eq_true_eq, List.mem_cons]
   rw [eq_comm (a := l[i])]
theorem in_Z {v : V} {σ : S} {l : List ByteArray} (h : StrV v σ l) (hl : l.length < 2^40) (s : ByteArray) : Z base14v (.call 28 [v, .str s] σ) = some (.ret (.bool (decide (s ∈ l))) σ) := by
 have hi := in_loop h hl s l.length 0 (by omega)
 rw [List.drop_zero] at hi
 refine Z_call (pf := F28) rfl rfl ?_
 simp only [inR] at hi
 by_cases hs : s ∈ l <;> rcases h with ⟨f, rfl, rfl⟩ | ⟨rfl, rfl, rfl⟩ | ⟨m, rfl, rfl⟩ <;> simp [hs] at hi <;> simp [F28, hi, hs]
/-! ### the names in a tree -/
end Go.Pm
end SE2
section SE3
namespace Go.Pm
open F
inductive NmSt : S -> V -> S -> Nat -> List ByteArray -> Ob -> Prop
 | a (l : List ByteArray) (x : Ob) : NmSt [] (.dat (strD l)) [x] 0 l x
 | b (l : List ByteArray) (x : Ob) (m : Nat) (h : l ≠ []) : NmSt [] (.gsl (strC l) l.length 1 0) [.tip m, x] 1 l x
def StrN (v : V) (σ : S) (l : List ByteArray) : Prop := v = .dat (strD l) /\ σ = []
abbrev boxO (k n : Int) (s : ByteArray) (d : D) : Ob := .cells [.int k, .int n, .str s, .dat d]
abbrev nmFr (v : V) (p : Nat) (i : Nat) : Fr := [(1, v), (2, .ptr p 0), (6, .int i)]
def NmEnd (base : S) (v : V) (σ : S) (p i : Nat) (x : Ob) (N : Nat) (l' : List ByteArray) : Prop :=
 ∃ v' σ' p', NmSt base v' σ' p' l' x /\ Z base14v (.loop base.length F33l0 (nmFr v p i) σ) = some (.out (.exit 0) [(1, v'), (2, .ptr p' 0), (6, .int N), (34, .bool false)] σ')
theorem nm_end {base : S} {v : V} {σ : S} {p : Nat} {l : List ByteArray} {k n : Int} {s : ByteArray} {d : D} {N : Nat} (h1 : V.one (.dat d) = true) (h2 : V.cells (.dat d) = [.dat d]) (hl : ∀ σ, V.len σ .sl (.dat d) = some N)
   (h : NmSt base v σ p l (boxO k n s d)) : NmEnd base v σ p N (boxO k n s d) N l := by
 refine ⟨v, σ, p, h, ?_⟩
 rw [Z_loop_eq]
 cases h <;> simp [loopStep, run_F33l0, h1, h2, hl]
section
variable {k n k0 n0 : Int} {s s0 : ByteArray} {f fl : Bool} {ks : Fo} {i N : Nat} {cs r : List D} {l l1 l2 : List ByteArray}
theorem nm_step (hc : cs.drop (i * 4) = .lit (.int .i64 k) :: .lit (.int .i64 n) :: .lit (.string s) :: kd f ks.len ks.cells :: r) (hi : i < N) (hN : N < 2^40)
   (hw : ∀ v σ, StrN v σ l -> Z base14v (.call 33 [nd k n s f ks, v] σ) = some (.ret (.dat (strD l1)) σ))
   (ih : ∀ base v σ p, NmSt base v σ p l1 (boxO k0 n0 s0 (.sl cs N fl)) -> NmEnd base v σ p (i + 1) (boxO k0 n0 s0 (.sl cs N fl)) N l2)
   {base : S} {v : V} {σ : S} {p : Nat} (h : NmSt base v σ p l (boxO k0 n0 s0 (.sl cs N fl))) : NmEnd base v σ p i (boxO k0 n0 s0 (.sl cs N fl)) N l2 := by
 have h4 := cut4 hc
 have w1 := wrap64 ((i : Int) + 1) (by omega)
 have hi' : (i : Int) < N := by omega
 unfold NmEnd
 cases h with
 | a =>
   obtain ⟨v', σ', p', h1, h2⟩ := ih _ _ _ _ (.a l1 _)
   refine ⟨v', σ', p', h1, ?_⟩
   have hw1 := hw _ _ ⟨rfl, rfl⟩
   rw [Z_loop_eq, <- h2]
   simp [loopStep, run_F33l0, hi, hi', sliceAddr, h4, hw1, w1, V.len]
   exact Z_loop_cong (by simp [nmFr, boxO])
 | b _ _ m h0 =>
   obtain ⟨v', σ', p', h1, h2⟩ := ih _ _ _ _ (.a l1 _)
   refine ⟨v', σ', p', h1, ?_⟩
   have hw1 := hw _ _ ⟨rfl, rfl⟩
   rw [strD_ne h0] at hw1
   rw [Z_loop_eq, <- h2]
   simp [loopStep, run_F33l0, hi, hi', sliceAddr, h4, hw1, w1, V.len]
   exact Z_loop_cong (by simp [nmFr, boxO])
end
section
variable {k n : Int} {s : ByteArray} {f : Bool} {ks : Fo} {l l' : List ByteArray}
def NmLoop (k n : Int) (s : ByteArray) (f : Bool) (ks : Fo) (l l' : List ByteArray) : Prop :=
 ∀ base v σ p, NmSt base v σ p l (boxO k n s (kd f ks.len ks.cells)) -> NmEnd base v σ p 0 (boxO k n s (kd f ks.len ks.cells)) ks.len l'
theorem names_skip_a (hk : (k ≠ 1 /\ k ≠ 10) \/ s ∈ l) (hl : l.length < 2^30) (h : NmLoop k n s f ks l l') : Z base14v (.call 33 [nd k n s f ks, .dat (strD l)] []) = some (.ret (.dat (strD l')) []) := by
 obtain ⟨v', σ', p', h1, h2⟩ := h _ _ _ _ (.a l _)
 have hin := in_Z (strV_strD l) (by omega) s
 refine Z_call (pf := F33) rfl rfl ?_
 have key : (k = 1 \/ k = 10) -> s ∈ l := fun hh => hk.resolve_left fun hn => by omega
 simp only [nmFr, boxO] at h2
 simp at h2
 by_cases k1 : k = 1
 · have hs := key (.inl k1)
   cases h1 with
   | a => simp [F33, hin, hs, k1] at h2 ⊢; simp [h2]
   | b _ _ m h0 => rw [strD_ne h0]; simp [F33, hin, hs, k1] at h2 ⊢; simp [h2]
 · by_cases k10 : k = 10
   · have hs := key (.inr k10)
     cases h1 with
     | a => simp [F33, hin, hs, k10] at h2 ⊢; simp [h2]
     | b _ _ m h0 => rw [strD_ne h0]; simp [F33, hin, hs, k10] at h2 ⊢; simp [h2]
   · cases h1 with
     | a => simp [F33, k1, k10] at h2 ⊢; simp [h2]
     | b _ _ m h0 => rw [strD_ne h0]; simp [F33, k1, k10] at h2 ⊢; simp [h2]
theorem names_add_nil (hk : k = 1 \/ k = 10) (h : NmLoop k n s f ks [s] l') : Z base14v (.call 33 [nd k n s f ks, .dat (strD [])] []) = some (.ret (.dat (strD l')) []) := by
 obtain ⟨v', σ', p', h1, h2⟩ := h _ _ _ _ (.b [s] _ 1 (by simp))
 have hin := in_Z (strV_strD []) (by simp) s
 refine Z_call (pf := F33) rfl rfl ?_
 have h2' := (Z_loop_cong (k := 0) (b := F33l0) (fr := [(1, .gsl (strC [s]) 1 1 1), (2, .ptr 0 0), (6, .int 0)]) (σ := [boxO k n s (kd f ks.len ks.cells), .tip 1]) (by simp [nmFr, boxO])).trans h2
 simp only [nmFr, boxO] at h2'
 rw [show strD [] = .lit (.slice none 0 0) from rfl] at hin ⊢
 rcases hk with rfl | rfl
 · cases h1 with
   | a => simp [F33, hin, strC_one] at h2' ⊢; simp [h2', appendV, srcV, roomFor]
   | b _ _ m h0 => rw [strD_ne h0]; simp [F33, hin, strC_one] at h2' ⊢; simp [h2', appendV, srcV, roomFor]
 · cases h1 with
   | a => simp [F33, hin, strC_one] at h2' ⊢; simp [h2', appendV, srcV, roomFor]
   | b _ _ m h0 => rw [strD_ne h0]; simp [F33, hin, strC_one] at h2' ⊢; simp [h2', appendV, srcV, roomFor]
theorem names_add_dat (hk : k = 1 \/ k = 10) (hs : s ∉ l) (h0 : l ≠ []) (hl : l.length < 2^30) (h : NmLoop k n s f ks (l ++ [s]) l') : Z base14v (.call 33 [nd k n s f ks, .dat (strD l)] []) = some (.ret (.dat (strD l')) []) := by
 obtain ⟨v', σ', p', h1, h2⟩ := h _ _ _ _ (.b (l ++ [s]) _ (l.length + 1) (by simp))
 have hin := in_Z (strV_strD l) (by omega) s
 refine Z_call (pf := F33) rfl rfl ?_
 have h2' := (Z_loop_cong (k := 0) (b := F33l0) (fr := [(1, .gsl (strC (l ++ [s])) (l ++ [s]).length 1 1), (2, .ptr 0 0), (6, .int 0)]) (σ := [boxO k n s (kd f ks.len ks.cells), .tip (l.length + 1)]) (by simp [nmFr, boxO])).trans h2
 have hn : l.length ≠ 0 := by simpa using h0
 have r1 : roomFor l.length 16 = true := by simp [roomFor]; omega
 have r2 : roomFor (l.length + 1) 16 = true := by simp [roomFor]; omega
 simp only [nmFr, boxO, strC_app] at h2'
 rw [strD_ne h0] at hin ⊢
 rcases hk with rfl | rfl
 · cases h1 with
   | a => simp [F33, hin, hs, strC_one] at h2' ⊢; simp [h2', appendV, srcV, r1, r2, h0]
   | b _ _ m h00 => rw [strD_ne h00]; simp [F33, hin, hs, strC_one] at h2' ⊢; simp [h2', appendV, srcV, r1, r2, h0]
 · cases h1 with
   | a => simp [F33, hin, hs, strC_one] at h2' ⊢; simp [h2', appendV, srcV, r1, r2, h0]
   | b _ _ m h00 => rw [strD_ne h00]; simp [F33, hin, hs, strC_one] at h2' ⊢; simp [h2', appendV, srcV, r1, r2, h0]
end
theorem names_node {k n : Int} {s : ByteArray} {f : Bool} {ks : Fo} {l l' : List ByteArray} (hl : l.length < 2^30)
   (h : NmLoop k n s f ks (addAll l (if k = 1 \/ k = 10 then [s] else [])) l') {v : V} {σ : S} (hv : StrN v σ l) : Z base14v (.call 33 [nd k n s f ks, v] σ) = some (.ret (.dat (strD l')) σ) := by
 obtain ⟨rfl, rfl⟩ := hv
 by_cases hk : k = 1 \/ k = 10
 · simp only [if_pos hk, addAll, List.foldl_cons, List.foldl_nil, addN] at h
   by_cases hs : s ∈ l
   · simp only [if_pos hs] at h
     exact names_skip_a (.inr hs) hl h
   · simp only [if_neg hs] at h
     by_cases h0 : l = []
     · subst h0; exact names_add_nil hk h
     · exact names_add_dat hk hs h0 hl h
 · simp only [if_neg hk, addAll, List.foldl_nil] at h
   exact names_skip_a (.inl (by omega)) hl h
theorem names_fo : ∀ (a : Fo) (i : Nat) (cs : List D) (N : Nat) (fl : Bool) (l : List ByteArray) (k0 n0 : Int) (s0 : ByteArray), cs.drop (i * 4) = a.cells -> N = i + a.len -> i + 2 * a.size + l.length < 2^30 ->
   ∀ base v σ p, NmSt base v σ p l (boxO k0 n0 s0 (.sl cs N fl)) -> NmEnd base v σ p i (boxO k0 n0 s0 (.sl cs N fl)) N (addAll l a.vars)
 | .nil, i, cs, N, fl, l, k0, n0, s0, hc, hN, hb, base, v, σ, p, h => by
   simp only [fo_len_nil, Nat.add_zero] at hN
   subst hN
   exact nm_end rfl rfl (fun _ => by simp [V.len]) h
 | .cons k n s f ks r, i, cs, N, fl, l, k0, n0, s0, hc, hN, hb, base, v, σ, p, h => by
   simp only [fo_cells_cons, fo_len_cons, fo_size_cons] at hc hN hb
   have h1 := fo_len_size r
   have h2 := vars_len ks
   have h3 := addAll_len (if k = 1 \/ k = 10 then [s] else []) l
   have h4 : (if k = 1 \/ k = 10 then [s] else []).length <= 1 := by split <;> simp
   have h5 := addAll_len ks.vars (addAll l (if k = 1 \/ k = 10 then [s] else []))
   have hk : NmLoop k n s f ks (addAll l (if k = 1 \/ k = 10 then [s] else [])) (addAll (addAll l (if k = 1 \/ k = 10 then [s] else [])) ks.vars) := by
     intro base v σ p hs
     cases hz : ks.len with
     | zero =>
       have hn : ks = .nil := by cases ks <;> simp at hz; rfl
       subst hn
       exact nm_end (by simp) (by simp) (by simp [V.len]) hs
     | succ m =>
       rw [hz, kd_s, <- hz] at hs
       rw [kd_s, <- hz]
       exact names_fo ks 0 ks.cells ks.len f _ k n s rfl (by omega) (by omega) base v σ p hs
   have hw : ∀ v σ, StrN v σ l -> _ := fun v σ hv => names_node (by omega) hk hv
   have e : addAll l (Fo.cons k n s f ks r).vars = addAll (addAll (addAll l (if k = 1 \/ k = 10 then [s] else [])) ks.vars) r.vars := by
     rw [Fo.vars, addAll_app, addAll_app]
   rw [e]
   exact nm_step hc (by omega) (by omega) hw (fun base v σ p hs => names_fo r (i + 1) cs N fl _ k0 n0 s0 (drop_next hc) (by omega) (by omega) base v σ p hs) h
theorem names_Z (k n : Int) (s : ByteArray) (f : Bool) (ks : Fo) (l : List ByteArray) (hb : ks.size + l.length < 2^29) : Z base14v (.call 33 [nd k n s f ks, .dat (strD l)] []) = some (.ret (.dat (strD (addAll l (Fo.cons k n s f ks .nil).vars))) []) := by
 have h3 := addAll_len (if k = 1 \/ k = 10 then [s] else []) l
 have h4 : (if k = 1 \/ k = 10 then [s] else []).length <= 1 := by split <;> simp
 have e : addAll l (Fo.cons k n s f ks .nil).vars = addAll (addAll l (if k = 1 \/ k = 10 then [s] else [])) ks.vars := by
   rw [Fo.vars, addAll_app, show Fo.vars .nil = [] from rfl, List.append_nil]
 rw [e]
 refine names_node (by omega) (fun base v σ p hs => ?_) ⟨rfl, rfl⟩
 cases hz : ks.len with
 | zero =>
   have hn : ks = .nil := by cases ks <;> simp at hz; rfl
   subst hn
   exact nm_end (by simp) (by simp) (by simp [V.len]) hs
 | succ m =>
   rw [hz, kd_s, <- hz] at hs
   rw [kd_s, <- hz]
   exact names_fo ks 0 ks.cells ks.len f _ k n s rfl (by omega) (by omega) base v σ p hs
end Go.Pm
end SE3
section SE4
namespace Go.Pm
open F
attribute [local simp] dkey
def mapM : Nat -> List ByteArray -> List (Value × V)
 | _, [] => []
 | i, s :: l => (.string s, .int i) :: mapM (i + 1) l
theorem find_mapM (s : ByteArray) : ∀ (l : List ByteArray) (i : Nat), (s ∉ l -> findE .s (.string s) (mapM i l) = some none) /\ (s ∈ l -> ∃ j : Nat, findE .s (.string s) (mapM i l) = some (some (.int j)))
 | [], i => by simp [mapM, findE]
 | x :: l, i => by
   have ih := find_mapM s l (i + 1)
   by_cases h : s = x
   · subst h
     exact ⟨fun hn => absurd (List.mem_cons_self ..) hn, fun _ => ⟨i, by simp [mapM, findE, sameKey]⟩⟩
   · have hb : (s == x) = false := by rw [bytes_beq]; exact decide_eq_false h
     refine ⟨fun hn => ?_, fun hm => ?_⟩
     · have := ih.1 (fun hm => hn (List.mem_cons_of_mem _ hm))
       simp [mapM, findE, sameKey, hb, this]
     · obtain ⟨j, hj⟩ := ih.2 ((List.mem_cons.1 hm).resolve_left h)
       exact ⟨j, by simp [mapM, findE, sameKey, hb, hj]⟩
theorem set_mapM (s : ByteArray) : ∀ (l : List ByteArray) (i : Nat), s ∉ l -> setE .s (.string s) (.int (i + l.length : Nat)) (mapM i l) = some (mapM i (l ++ [s]))
 | [], i, _ => by simp [mapM, setE]
 | x :: l, i, hn => by
   have h : s ≠ x := fun h => hn (h ▸ List.mem_cons_self ..)
   have hb : (s == x) = false := by rw [bytes_beq]; exact decide_eq_false h
   have ih := set_mapM s l (i + 1) (fun hm => hn (List.mem_cons_of_mem _ hm))
   rw [show i + 1 + l.length = i + (l.length + 1) by omega] at ih
   simp only [List.length_cons, List.cons_append, mapM, setE, sameKey, hb, ih]
theorem locs_mapM : ∀ (l : List ByteArray) (i : Nat), locsE (mapM i l) = []
 | [], i => rfl
 | x :: l, i => by simp [mapM, locs_mapM l]
theorem ren_mapM (r : Nat -> Nat) : ∀ (l : List ByteArray) (i : Nat), renE r (mapM i l) = mapM i l
 | [], i => rfl
 | x :: l, i => by simp [mapM, ren_mapM r l]
attribute [local simp] locs_mapM ren_mapM dkey
abbrev lpO (r : D) (i : Int) : Ob := .loop ⟨[(3, .ptr 1 0), (4, .ptr 2 0), (12, .dat r), (13, .int i), (17, .fn 38 [] [.ptr 3 0])], [18], F15a0, F15b0, 0, none⟩
abbrev S0 (r : D) (j : Int) (bx : Ob) : S := [lpO r j, .cells [.dat (.lit (.slice none 0 0))], .cells [.mp 4], bx, .map []]
abbrev S01 (r : D) (j : Int) (bx : Ob) (l : List ByteArray) : S := [lpO r j, .cells [.gsl (strC l) l.length 1 5], .cells [.mp 4], bx, .map (mapM 0 l), .tip l.length]
abbrev S1 (r : D) (j : Int) (bx : Ob) (l : List ByteArray) : S := [lpO r j, .cells [.gsl (strC l) l.length 1 4], .cells [.mp 5], bx, .tip l.length, .map (mapM 0 l)]
section
variable {k n k0 n0 : Int} {s s0 : ByteArray} {f f0 : Bool} {ks : Fo} {d0 : D} {r : D} {j : Int} {l : List ByteArray}
theorem rd_skip0 (h1 : k ≠ 1) (h2 : k ≠ 10) : Z base14v (.round [.yld 0, nd k n s f ks] (S0 r j (boxO k0 n0 s0 d0))) = some (.ret (.bool true) (S0 r j (boxO k0 n0 s0 d0))) := by
 rw [Z_round_eq]
 simp [runRound, flat_F15a0, flat_F15b0, run_F15a0, run_F15b0, putAll, h1, h2, Lp.ended, Ex.isNormal, boxO, List.range_succ]
theorem rd_skip1 (h1 : k ≠ 1) (h2 : k ≠ 10) : Z base14v (.round [.yld 0, nd k n s f ks] (S1 r j (boxO k0 n0 s0 d0) l)) = some (.ret (.bool true) (S1 r j (boxO k0 n0 s0 d0) l)) := by
 rw [Z_round_eq]
 simp [runRound, flat_F15a0, flat_F15b0, run_F15a0, run_F15b0, putAll, h1, h2, Lp.ended, Ex.isNormal, boxO, List.range_succ]
theorem rd_dup1 (hk : k = 1 \/ k = 10) (hs : s ∈ l) : Z base14v (.round [.yld 0, nd k n s f ks] (S1 r j (boxO k0 n0 s0 d0) l)) = some (.ret (.bool true) (S1 r j (boxO k0 n0 s0 d0) l)) := by
 obtain ⟨q, hq⟩ := (find_mapM s l 0).2 hs
 rw [Z_round_eq]
 rcases hk with rfl | rfl <;> simp [runRound, flat_F15a0, flat_F15b0, run_F15a0, run_F15b0, putAll, hq, keyOk, Lp.ended, Ex.isNormal, boxO, List.range_succ]
theorem rd_add0 (hk : k = 1 \/ k = 10) : Z base14v (.round [.yld 0, nd k n s f ks] (S0 r j (boxO k0 n0 s0 d0))) = some (.ret (.bool true) (S01 r j (boxO k0 n0 s0 d0) [s])) := by
 rw [Z_round_eq]
 rcases hk with rfl | rfl <;> simp [runRound, flat_F15a0, flat_F15b0, run_F15a0, run_F15b0, putAll, findE, setE, mapM, strC_one, keyOk, Lp.ended, Ex.isNormal, boxO, List.range_succ, V.len, appendV, srcV, roomFor]
theorem rd_add1 (hk : k = 1 \/ k = 10) (hs : s ∉ l) (h0 : l ≠ []) (hl : l.length < 2^30) : Z base14v (.round [.yld 0, nd k n s f ks] (S1 r j (boxO k0 n0 s0 d0) l)) = some (.ret (.bool true) (S1 r j (boxO k0 n0 s0 d0) (l ++ [s]))) := by
 have hq := (find_mapM s l 0).1 hs
 have hs' := set_mapM s l 0 hs
 rw [Nat.zero_add] at hs'
 have r2 : roomFor (l.length + 1) 16 = true := by simp [roomFor]; omega
 rw [Z_round_eq]
 rcases hk with rfl | rfl <;> simp [runRound, flat_F15a0, flat_F15b0, run_F15a0, run_F15b0, putAll, hq, hs', strC_app, strC_one, keyOk, Lp.ended, Ex.isNormal, boxO, List.range_succ, V.len, appendV, srcV, r2]
theorem rd0 : ∃ S', Z base14v (.round [.yld 0, nd k n s f ks] (S0 r j (boxO k0 n0 s0 d0))) = some (.ret (.bool true) S') /\
   ((addAll [] (if k = 1 \/ k = 10 then [s] else []) = [] /\ S' = S0 r j (boxO k0 n0 s0 d0)) \/ (addAll [] (if k = 1 \/ k = 10 then [s] else []) ≠ [] /\ S' = S01 r j (boxO k0 n0 s0 d0) (addAll [] (if k = 1 \/ k = 10 then [s] else [])))) := by
 by_cases hk : k = 1 \/ k = 10
 · simp only [if_pos hk]
   exact ⟨_, rd_add0 hk, .inr ⟨by simp [addAll, addN], rfl⟩⟩
 · simp only [if_neg hk]
   exact ⟨_, rd_skip0 (by omega) (by omega), .inl ⟨rfl, rfl⟩⟩
theorem rd1 (h0 : l ≠ []) (hl : l.length < 2^30) : Z base14v (.round [.yld 0, nd k n s f ks] (S1 r j (boxO k0 n0 s0 d0) l)) = some (.ret (.bool true) (S1 r j (boxO k0 n0 s0 d0) (addAll l (if k = 1 \/ k = 10 then [s] else [])))) := by
 by_cases hk : k = 1 \/ k = 10
 · simp only [if_pos hk, addAll, List.foldl_cons, List.foldl_nil, addN]
   by_cases hs : s ∈ l
   · rw [if_pos hs]; exact rd_dup1 hk hs
   · rw [if_neg hs]; exact rd_add1 hk hs h0 hl
 · simp only [if_neg hk]
   exact rd_skip1 (by omega) (by omega)
end
end Go.Pm
end SE4
section SE5
namespace Go.Pm
open F
attribute [local simp] locs_mapM ren_mapM dkey
section
variable {k n k0 n0 : Int} {s s0 : ByteArray} {f fl : Bool} {ks : Fo} {d0 d : D} {r : D} {j : Int} {l l1 l2 : List ByteArray} {i N : Nat} {cs c4 : List D}
abbrev vsFr (d : D) (N i : Nat) : Fr := [(1, .yld 0), (12, .dat d), (13, .int N), (14, .int i)]
abbrev vsOut (d : D) (N : Nat) (S' : S) : Option Res := some (.out (.exit 0) [(1, .yld 0), (12, .dat d), (13, .int N), (14, .int N), (15, .bool false)] S')
def Got (r : D) (j : Int) (bx : Ob) (l : List ByteArray) (S' : S) : Prop := (l = [] /\ S' = S0 r j bx) \/ (l ≠ [] /\ S' = S01 r j bx l)
theorem vs_endA (h1 : V.one (.dat d) = true) (h2 : V.cells (.dat d) = [.dat d]) : Z base14v (.loop 5 F39l0 (vsFr d N N) (S0 r j (boxO k0 n0 s0 d0))) = vsOut d N (S0 r j (boxO k0 n0 s0 d0)) := by
 rw [Z_loop_eq]
 simp [loopStep, run_F39l0, boxO, List.range_succ]
theorem vs_endB (h1 : V.one (.dat d) = true) (h2 : V.cells (.dat d) = [.dat d]) : Z base14v (.loop 5 F39l0 (vsFr d N N) (S01 r j (boxO k0 n0 s0 d0) l)) = vsOut d N (S01 r j (boxO k0 n0 s0 d0) l) := by
 rw [Z_loop_eq]
 simp [loopStep, run_F39l0, boxO, List.range_succ]
theorem vs_endC (h1 : V.one (.dat d) = true) (h2 : V.cells (.dat d) = [.dat d]) : Z base14v (.loop 6 F39l0 (vsFr d N N) (S1 r j (boxO k0 n0 s0 d0) l)) = vsOut d N (S1 r j (boxO k0 n0 s0 d0) l) := by
 rw [Z_loop_eq]
 simp [loopStep, run_F39l0, boxO, List.range_succ]
def VisOK (r : D) (j : Int) (bx : Ob) (nv : V) (xs : List ByteArray) : Prop :=
 (∃ S', Z base14v (.call 39 [nv, .yld 0] (S0 r j bx)) = some (.ret (.bool true) S') /\ Got r j bx (addAll [] xs) S') /\
 ∀ l, l ≠ [] -> l.length + xs.length < 2^29 -> Z base14v (.call 39 [nv, .yld 0] (S1 r j bx l)) = some (.ret (.bool true) (S1 r j bx (addAll l xs)))
def VisLoop (r : D) (j : Int) (bx : Ob) (d : D) (N i : Nat) (xs : List ByteArray) : Prop :=
 (∃ S', Z base14v (.loop 5 F39l0 (vsFr d N i) (S0 r j bx)) = vsOut d N S' /\ Got r j bx (addAll [] xs) S') /\
 (∀ l, l ≠ [] -> l.length + xs.length < 2^29 -> Z base14v (.loop 5 F39l0 (vsFr d N i) (S01 r j bx l)) = vsOut d N (S01 r j bx (addAll l xs))) /\
 (∀ l, l ≠ [] -> l.length + xs.length < 2^29 -> Z base14v (.loop 6 F39l0 (vsFr d N i) (S1 r j bx l)) = vsOut d N (S1 r j bx (addAll l xs)))
theorem addAll_ne (xs : List ByteArray) (h : l ≠ []) : addAll l xs ≠ [] := by
 have h1 := (addAll_len xs l).1
 intro he
 rw [he] at h1
 exact h (List.eq_nil_of_length_eq_zero (Nat.le_zero.1 h1))
theorem vis_step (hc : cs.drop (i * 4) = .lit (.int .i64 k) :: .lit (.int .i64 n) :: .lit (.string s) :: kd f ks.len ks.cells :: c4) (hi : i < N) (hN : N < 2^40) {xs ys : List ByteArray} (hx : xs.length + ys.length < 2^28)
   (hw : VisOK r j (boxO k0 n0 s0 d0) (nd k n s f ks) xs) (ih : VisLoop r j (boxO k0 n0 s0 d0) (.sl cs N fl) N (i + 1) ys) : VisLoop r j (boxO k0 n0 s0 d0) (.sl cs N fl) N i (xs ++ ys) := by
 have h4 := cut4 hc
 have w1 := wrap64 ((i : Int) + 1) (by omega)
 have hi' : (i : Int) < N := by omega
 obtain ⟨⟨S', hw0, hg⟩, hw1⟩ := hw
 obtain ⟨⟨T, ha, hT⟩, hb, hc'⟩ := ih
 have hlen := addAll_len xs []
 simp only [List.length_nil, Nat.zero_add] at hlen
 refine ⟨?_, fun l hl hb' => ?_, fun l hl hb' => ?_⟩
 · rw [addAll_app]
   rcases hg with ⟨he, rfl⟩ | ⟨he, rfl⟩
   · rw [he]
     refine ⟨T, ?_, hT⟩
     rw [Z_loop_eq, <- ha]
     simp only [boxO, S0, S01] at hw0
     simp [loopStep, run_F39l0, hi, hi', sliceAddr, h4, hw0, w1, V.len, boxO, List.range_succ]
     exact Z_loop_cong (by simp [List.range_succ])
   · refine ⟨_, ?_, .inr ⟨addAll_ne _ he, rfl⟩⟩
     have hb1 := hb (addAll [] xs) he (by omega)
     rw [Z_loop_eq, <- hb1]
     simp only [boxO, S0, S01] at hw0
     simp [loopStep, run_F39l0, hi, hi', sliceAddr, h4, hw0, w1, V.len, boxO, List.range_succ]
     exact Z_loop_cong (by simp [List.range_succ])
 · rw [List.length_append] at hb'
   have hl2 := addAll_len xs l
   have hb1 := hb (addAll l xs) (addAll_ne _ hl) (by omega)
   have hw2 := hw1 l hl (by omega)
   rw [addAll_app, Z_loop_eq, <- hb1]
   simp only [boxO, S1] at hw2
   simp [loopStep, run_F39l0, hi, hi', sliceAddr, h4, hw2, w1, V.len, boxO, List.range_succ]
   exact Z_loop_cong (by simp [List.range_succ])
 · rw [List.length_append] at hb'
   have hl2 := addAll_len xs l
   have hb1 := hc' (addAll l xs) (addAll_ne _ hl) (by omega)
   have hw2 := hw1 l hl (by omega)
   rw [addAll_app, Z_loop_eq, <- hb1]
   simp only [boxO, S1] at hw2
   simp [loopStep, run_F39l0, hi, hi', sliceAddr, h4, hw2, w1, V.len, boxO, List.range_succ]
   exact Z_loop_cong (by simp [List.range_succ])
theorem vis_node (hx : ks.vars.length < 2^28) (h : VisLoop r j (boxO k0 n0 s0 d0) (kd f ks.len ks.cells) ks.len 0 ks.vars) : VisOK r j (boxO k0 n0 s0 d0) (nd k n s f ks) ((if k = 1 \/ k = 10 then [s] else []) ++ ks.vars) := by
 obtain ⟨⟨T, ha, hT⟩, hb, hc⟩ := h
 have h4 : (if k = 1 \/ k = 10 then [s] else []).length <= 1 := by split <;> simp
 refine ⟨?_, fun l hl hb' => ?_⟩
 · obtain ⟨S', hr, hS⟩ := rd0 (k := k) (n := n) (s := s) (f := f) (ks := ks) (r := r) (j := j) (k0 := k0) (n0 := n0) (s0 := s0) (d0 := d0)
   have hlen := addAll_len (if k = 1 \/ k = 10 then [s] else []) []
   simp only [List.length_nil, Nat.zero_add] at hlen
   rw [addAll_app]
   rcases hS with ⟨he, rfl⟩ | ⟨he, rfl⟩
   · rw [he]
     refine ⟨T, ?_, hT⟩
     refine Z_call (pf := F39) rfl rfl ?_
     have ha' := (Z_loop_cong (k := 5) (b := F39l0) (fr := vsFr (kd f ks.len ks.cells) ks.len 0) (σ := S0 r j (boxO k0 n0 s0 d0) ++ [boxO k n s (kd f ks.len ks.cells)]) (by simp [boxO, List.range_succ])).trans ha
     simp only [boxO, vsFr, vsOut, lpO, S0, S01, S1, List.cons_append, List.nil_append, show ((0 : Nat) : Int) = 0 from rfl] at hr ha'
     rcases hT with ⟨hT, rfl⟩ | ⟨hT, rfl⟩ <;> simp [F39, hr, ha', boxO, S0, S01, lpO, List.range_succ]
   · refine ⟨S01 r j (boxO k0 n0 s0 d0) (addAll (addAll [] (if k = 1 \/ k = 10 then [s] else [])) ks.vars), ?_, .inr ⟨addAll_ne _ he, rfl⟩⟩
     generalize addAll [] (if k = 1 \/ k = 10 then [s] else []) = l at *
     have hb1 := hb l he (by omega)
     refine Z_call (pf := F39) rfl rfl ?_
     have ha' := (Z_loop_cong (k := 5) (b := F39l0) (fr := vsFr (kd f ks.len ks.cells) ks.len 0) (σ := [lpO r j, .cells [.gsl (strC l) l.length 1 6], .cells [.mp 4], boxO k0 n0 s0 d0, .map (mapM 0 l), boxO k n s (kd f ks.len ks.cells), .tip l.length]) (by simp [boxO, List.range_succ])).trans hb1
     simp only [boxO, vsFr, vsOut, lpO, S0, S01, S1, List.cons_append, List.nil_append, show ((0 : Nat) : Int) = 0 from rfl] at hr ha'
     simp [F39, hr, ha', boxO, S0, S01, lpO, List.range_succ]
 · rw [List.length_append] at hb'
   have hl2 := addAll_len (if k = 1 \/ k = 10 then [s] else []) l
   have hr := rd1 (k := k) (n := n) (s := s) (f := f) (ks := ks) (r := r) (j := j) (k0 := k0) (n0 := n0) (s0 := s0) (d0 := d0) hl (by omega)
   have he := addAll_ne (if k = 1 \/ k = 10 then [s] else []) hl
   rw [addAll_app]
   generalize addAll l (if k = 1 \/ k = 10 then [s] else []) = l' at *
   have hc1 := hc l' he (by omega)
   refine Z_call (pf := F39) rfl rfl ?_
   have ha' := (Z_loop_cong (k := 6) (b := F39l0) (fr := vsFr (kd f ks.len ks.cells) ks.len 0) (σ := S1 r j (boxO k0 n0 s0 d0) l' ++ [boxO k n s (kd f ks.len ks.cells)]) (by simp [boxO, List.range_succ])).trans hc1
   simp only [boxO, vsFr, vsOut, lpO, S0, S01, S1, List.cons_append, List.nil_append, show ((0 : Nat) : Int) = 0 from rfl] at hr ha'
   simp [F39, hr, ha', boxO, S0, S01, lpO, List.range_succ]
end
end Go.Pm
end SE5
section SE6
namespace Go.Pm
open F
attribute [local simp] locs_mapM ren_mapM dkey
theorem visLoop_nil {r : D} {j k0 n0 : Int} {s0 : ByteArray} {d0 d : D} {N : Nat} (h1 : V.one (.dat d) = true) (h2 : V.cells (.dat d) = [.dat d]) : VisLoop r j (boxO k0 n0 s0 d0) d N N [] :=
 ⟨⟨_, vs_endA h1 h2, .inl ⟨rfl, rfl⟩⟩, fun _ _ _ => vs_endB h1 h2, fun _ _ _ => vs_endC h1 h2⟩
theorem vis_fo {r : D} {j k0 n0 : Int} {s0 : ByteArray} {d0 : D} : ∀ (a : Fo) (i : Nat) (cs : List D) (N : Nat) (fl : Bool), cs.drop (i * 4) = a.cells -> N = i + a.len -> i + 2 * a.size < 2^27 ->
   VisLoop r j (boxO k0 n0 s0 d0) (.sl cs N fl) N i a.vars
 | .nil, i, cs, N, fl, hc, hN, hb => by
   simp only [fo_len_nil, Nat.add_zero] at hN
   subst hN
   exact visLoop_nil rfl rfl
 | .cons k n s f ks rr, i, cs, N, fl, hc, hN, hb => by
   simp only [fo_cells_cons, fo_len_cons, fo_size_cons] at hc hN hb
   have h1 := fo_len_size rr
   have h2 := vars_len ks
   have h3 := vars_len rr
   have h4 : (if k = 1 \/ k = 10 then [s] else []).length <= 1 := by split <;> simp
   have hk : VisLoop r j (boxO k0 n0 s0 d0) (kd f ks.len ks.cells) ks.len 0 ks.vars := by
     cases hz : ks.len with
     | zero =>
       have hn : ks = .nil := by cases ks <;> simp at hz; rfl
       subst hn
       exact visLoop_nil (by simp) (by simp)
     | succ m =>
       rw [kd_s, <- hz]
       exact vis_fo ks 0 ks.cells ks.len f rfl (by omega) (by omega)
   have e : (Fo.cons k n s f ks rr).vars = ((if k = 1 \/ k = 10 then [s] else []) ++ ks.vars) ++ rr.vars := by rw [Fo.vars, List.append_assoc]
   rw [e]
   exact vis_step hc (by omega) (by omega) (by rw [List.length_append]; omega) (vis_node (by omega) hk) (vis_fo rr (i + 1) cs N fl (drop_next hc) (by omega) (by omega))
theorem vis_Z {r : D} {j k0 n0 : Int} {s0 : ByteArray} {d0 : D} (k n : Int) (s : ByteArray) (f : Bool) (ks : Fo) (hb : ks.size < 2^25) : VisOK r j (boxO k0 n0 s0 d0) (nd k n s f ks) ((if k = 1 \/ k = 10 then [s] else []) ++ ks.vars) := by
 have h2 := vars_len ks
 refine vis_node (by omega) ?_
 cases hz : ks.len with
 | zero =>
   have hn : ks = .nil := by cases ks <;> simp at hz; rfl
   subst hn
   exact visLoop_nil (by simp) (by simp)
 | succ m =>
   rw [kd_s, <- hz]
   exact vis_fo ks 0 ks.cells ks.len f rfl (by omega) (by omega)
abbrev lp38 (r : D) (i : Int) : Ob := .loop ⟨[(3, .ptr 2 0), (4, .ptr 3 0), (12, .dat r), (13, .int i), (17, .fn 38 [] [.ptr 1 0])], [18], F15a0, F15b0, 0, none⟩
abbrev T0 (r : D) (j : Int) (bx : Ob) : S := [lp38 r j, bx, .cells [.dat (.lit (.slice none 0 0))], .cells [.mp 4], .map []]
abbrev T01 (r : D) (j : Int) (bx : Ob) (l : List ByteArray) : S := [lp38 r j, bx, .cells [.gsl (strC l) l.length 1 5], .cells [.mp 4], .map (mapM 0 l), .tip l.length]
abbrev T1 (r : D) (j : Int) (bx : Ob) (l : List ByteArray) : S := [lp38 r j, bx, .cells [.gsl (strC l) l.length 1 4], .cells [.mp 5], .tip l.length, .map (mapM 0 l)]
section
variable {r : D} {j : Int} {k n : Int} {s : ByteArray} {f : Bool} {ks : Fo} {xs : List ByteArray}
theorem n38_0 (h : VisOK r j (boxO k n s (kd f ks.len ks.cells)) (nd k n s f ks) xs) : ∃ S', Z base14v (.call 38 [.yld 0, .ptr 1 0] (T0 r j (boxO k n s (kd f ks.len ks.cells)))) = some (.ret (.tup []) S') /\
   ((addAll [] xs = [] /\ S' = T0 r j (boxO k n s (kd f ks.len ks.cells))) \/ (addAll [] xs ≠ [] /\ S' = T01 r j (boxO k n s (kd f ks.len ks.cells)) (addAll [] xs))) := by
 obtain ⟨⟨S', h1, hg⟩, -⟩ := h
 simp only [boxO, S0, lpO] at h1
 rcases hg with ⟨he, rfl⟩ | ⟨he, rfl⟩
 · refine ⟨_, ?_, .inl ⟨he, rfl⟩⟩
   refine Z_call (pf := F38) rfl rfl ?_
   simp [F38, h1, boxO, S0, lpO, List.range_succ]
 · refine ⟨_, ?_, .inr ⟨he, rfl⟩⟩
   refine Z_call (pf := F38) rfl rfl ?_
   simp [F38, h1, boxO, S01, lpO, List.range_succ]
theorem n38_1 (h : VisOK r j (boxO k n s (kd f ks.len ks.cells)) (nd k n s f ks) xs) {l : List ByteArray} (hl : l ≠ []) (hb : l.length + xs.length < 2^29) : Z base14v (.call 38 [.yld 0, .ptr 1 0] (T1 r j (boxO k n s (kd f ks.len ks.cells)) l)) = some (.ret (.tup []) (T1 r j (boxO k n s (kd f ks.len ks.cells)) (addAll l xs))) := by
 have h1 := h.2 l hl hb
 simp only [boxO, S1, lpO] at h1
 refine Z_call (pf := F38) rfl rfl ?_
 simp [F38, h1, boxO, S1, lpO, List.range_succ]
theorem n32_Z : Z base14v (.call 32 [nd k n s f ks] []) = some (.ret (.fn 38 [] [.ptr 0 0]) [boxO k n s (kd f ks.len ks.cells)]) := by
 refine Z_call (pf := F32) rfl rfl ?_
 simp [F32, boxO]
end
end Go.Pm
end SE6
section SE7
namespace Go.Pm
open F
attribute [local simp] locs_mapM ren_mapM dkey Ex.isPan
abbrev vfr (r : D) (i : Int) : Fr := [(3, .ptr 0 0), (4, .ptr 1 0), (12, .dat r), (13, .int i)]
abbrev U0 : S := [.cells [.dat (.lit (.slice none 0 0))], .cells [.mp 2], .map []]
abbrev U1 (l : List ByteArray) : S := [.cells [.gsl (strC l) l.length 1 2], .cells [.mp 3], .tip l.length, .map (mapM 0 l)]
section
variable {a b c : Nd}
theorem v0_step0 (hb : a.ks.size < 2^25) : Z base14v (.loop 0 F15l0 (vfr (ru a b c) 0) U0) = if addAll [] a.vars = [] then Z base14v (.loop 0 F15l0 (vfr (ru a b c) 1) U0) else Z base14v (.loop 0 F15l0 (vfr (ru a b c) 1) (U1 (addAll [] a.vars))) := by
 have hv := vis_Z (r := ru a b c) (j := 0) (k0 := a.k) (n0 := a.n) (s0 := a.s) (d0 := a.d) a.k a.n a.s a.f a.ks hb
 obtain ⟨S', h1, h2⟩ := n38_0 hv
 have h3 := n32_Z (k := a.k) (n := a.n) (s := a.s) (f := a.f) (ks := a.ks)
 have w1 := wrap64 1 (by omega)
 rw [show (if a.k = 1 \/ a.k = 10 then [a.s] else []) ++ a.ks.vars = a.vars from rfl] at h2
 simp only [boxO, T0, lp38, ru, Nd.d] at h1 h3
 conv => lhs; rw [Z_loop_eq]
 rcases h2 with ⟨he, rfl⟩ | ⟨he, rfl⟩
 · rw [if_pos he]
   simp [loopStep, run_F15l0, h3, h1, w1, flat_F15a0, flat_F15b0, boxO, T0, lp38, List.range_succ]
   refine Z_loop_cong ?_
   simp [List.range_succ]
 · rw [if_neg he]
   simp [loopStep, run_F15l0, h3, h1, w1, flat_F15a0, flat_F15b0, boxO, T01, lp38, List.range_succ]
   refine Z_loop_cong ?_
   simp [List.range_succ]
theorem v0_step1 (hb : b.ks.size < 2^25) : Z base14v (.loop 0 F15l0 (vfr (ru a b c) 1) U0) = if addAll [] b.vars = [] then Z base14v (.loop 0 F15l0 (vfr (ru a b c) 2) U0) else Z base14v (.loop 0 F15l0 (vfr (ru a b c) 2) (U1 (addAll [] b.vars))) := by
 have hv := vis_Z (r := ru a b c) (j := 1) (k0 := b.k) (n0 := b.n) (s0 := b.s) (d0 := b.d) b.k b.n b.s b.f b.ks hb
 obtain ⟨S', h1, h2⟩ := n38_0 hv
 have h3 := n32_Z (k := b.k) (n := b.n) (s := b.s) (f := b.f) (ks := b.ks)
 have w1 := wrap64 2 (by omega)
 rw [show (if b.k = 1 \/ b.k = 10 then [b.s] else []) ++ b.ks.vars = b.vars from rfl] at h2
 simp only [boxO, T0, lp38, ru, Nd.d] at h1 h3
 conv => lhs; rw [Z_loop_eq]
 rcases h2 with ⟨he, rfl⟩ | ⟨he, rfl⟩
 · rw [if_pos he]
   simp [loopStep, run_F15l0, h3, h1, w1, flat_F15a0, flat_F15b0, boxO, T0, lp38, List.range_succ]
   refine Z_loop_cong ?_
   simp [List.range_succ]
 · rw [if_neg he]
   simp [loopStep, run_F15l0, h3, h1, w1, flat_F15a0, flat_F15b0, boxO, T01, lp38, List.range_succ]
   refine Z_loop_cong ?_
   simp [List.range_succ]
theorem v1_step1 {l : List ByteArray} (hb : b.ks.size < 2^25) (hl : l ≠ []) (hl' : l.length < 2^27) : Z base14v (.loop 0 F15l0 (vfr (ru a b c) 1) (U1 l)) = Z base14v (.loop 0 F15l0 (vfr (ru a b c) 2) (U1 (addAll l b.vars))) := by
 have hv := vis_Z (r := ru a b c) (j := 1) (k0 := b.k) (n0 := b.n) (s0 := b.s) (d0 := b.d) b.k b.n b.s b.f b.ks hb
 have hx := nd_vars_len b
 have h1 := n38_1 hv hl (by rw [show (if b.k = 1 \/ b.k = 10 then [b.s] else []) ++ b.ks.vars = b.vars from rfl]; omega)
 rw [show (if b.k = 1 \/ b.k = 10 then [b.s] else []) ++ b.ks.vars = b.vars from rfl] at h1
 have h3 := n32_Z (k := b.k) (n := b.n) (s := b.s) (f := b.f) (ks := b.ks)
 have w1 := wrap64 2 (by omega)
 simp only [boxO, T1, lp38, ru, Nd.d] at h1 h3
 conv => lhs; rw [Z_loop_eq]
 simp [loopStep, run_F15l0, h3, h1, w1, flat_F15a0, flat_F15b0, boxO, T1, lp38, List.range_succ]
 refine Z_loop_cong ?_
 simp [List.range_succ]
theorem v0_step2 (hb : c.ks.size < 2^25) : Z base14v (.loop 0 F15l0 (vfr (ru a b c) 2) U0) = if addAll [] c.vars = [] then Z base14v (.loop 0 F15l0 (vfr (ru a b c) 3) U0) else Z base14v (.loop 0 F15l0 (vfr (ru a b c) 3) (U1 (addAll [] c.vars))) := by
 have hv := vis_Z (r := ru a b c) (j := 2) (k0 := c.k) (n0 := c.n) (s0 := c.s) (d0 := c.d) c.k c.n c.s c.f c.ks hb
 obtain ⟨S', h1, h2⟩ := n38_0 hv
 have h3 := n32_Z (k := c.k) (n := c.n) (s := c.s) (f := c.f) (ks := c.ks)
 have w1 := wrap64 3 (by omega)
 rw [show (if c.k = 1 \/ c.k = 10 then [c.s] else []) ++ c.ks.vars = c.vars from rfl] at h2
 simp only [boxO, T0, lp38, ru, Nd.d] at h1 h3
 conv => lhs; rw [Z_loop_eq]
 rcases h2 with ⟨he, rfl⟩ | ⟨he, rfl⟩
 · rw [if_pos he]
   simp [loopStep, run_F15l0, h3, h1, w1, flat_F15a0, flat_F15b0, boxO, T0, lp38, List.range_succ]
   refine Z_loop_cong ?_
   simp [List.range_succ]
 · rw [if_neg he]
   simp [loopStep, run_F15l0, h3, h1, w1, flat_F15a0, flat_F15b0, boxO, T01, lp38, List.range_succ]
   refine Z_loop_cong ?_
   simp [List.range_succ]
theorem v1_step2 {l : List ByteArray} (hb : c.ks.size < 2^25) (hl : l ≠ []) (hl' : l.length < 2^27) : Z base14v (.loop 0 F15l0 (vfr (ru a b c) 2) (U1 l)) = Z base14v (.loop 0 F15l0 (vfr (ru a b c) 3) (U1 (addAll l c.vars))) := by
 have hv := vis_Z (r := ru a b c) (j := 2) (k0 := c.k) (n0 := c.n) (s0 := c.s) (d0 := c.d) c.k c.n c.s c.f c.ks hb
 have hx := nd_vars_len c
 have h1 := n38_1 hv hl (by rw [show (if c.k = 1 \/ c.k = 10 then [c.s] else []) ++ c.ks.vars = c.vars from rfl]; omega)
 rw [show (if c.k = 1 \/ c.k = 10 then [c.s] else []) ++ c.ks.vars = c.vars from rfl] at h1
 have h3 := n32_Z (k := c.k) (n := c.n) (s := c.s) (f := c.f) (ks := c.ks)
 have w1 := wrap64 3 (by omega)
 simp only [boxO, T1, lp38, ru, Nd.d] at h1 h3
 conv => lhs; rw [Z_loop_eq]
 simp [loopStep, run_F15l0, h3, h1, w1, flat_F15a0, flat_F15b0, boxO, T1, lp38, List.range_succ]
 refine Z_loop_cong ?_
 simp [List.range_succ]
theorem v0_end {r : D} : Z base14v (.loop 0 F15l0 [(3, .ptr 0 0), (4, .ptr 1 0), (12, .dat r), (13, .int 3)] U0) = some (.out (.exit 0) [(3, .ptr 0 0), (4, .ptr 1 0), (12, .dat r), (13, .int 3), (14, .bool false)] U0) := by
 rw [Z_loop_eq]
 simp [loopStep, run_F15l0]
theorem v1_end {r : D} {l : List ByteArray} : Z base14v (.loop 0 F15l0 [(3, .ptr 0 0), (4, .ptr 1 0), (12, .dat r), (13, .int 3)] (U1 l)) = some (.out (.exit 0) [(3, .ptr 0 0), (4, .ptr 1 0), (12, .dat r), (13, .int 3), (14, .bool false)] (U1 l)) := by
 rw [Z_loop_eq]
 simp [loopStep, run_F15l0]
theorem vars_loop (ha : a.ks.size < 2^25) (hb : b.ks.size < 2^25) (hc : c.ks.size < 2^25) : Z base14v (.loop 0 F15l0 (vfr (ru a b c) 0) U0) =
   some (.out (.exit 0) [(3, .ptr 0 0), (4, .ptr 1 0), (12, .dat (ru a b c)), (13, .int 3), (14, .bool false)] (if rvars a b c = [] then U0 else U1 (rvars a b c))) := by
 have la := nd_vars_len a
 have lb := nd_vars_len b
 have l1 := addAll_len a.vars []
 have l2 := addAll_len b.vars (addAll [] a.vars)
 have e : rvars a b c = addAll (addAll (addAll [] a.vars) b.vars) c.vars := by unfold rvars; rw [addAll_app, addAll_app]
 simp only [List.length_nil] at l1
 rw [e, v0_step0 ha]
 by_cases h1 : addAll [] a.vars = []
 · rw [if_pos h1, h1, v0_step1 hb]
   by_cases h2 : addAll [] b.vars = []
   · rw [if_pos h2, h2, v0_step2 hc]
     by_cases h3 : addAll [] c.vars = []
     · rw [if_pos h3, if_pos h3]; exact v0_end
     · rw [if_neg h3, if_neg h3]; exact v1_end
   · rw [h1] at l2
     rw [if_neg h2, v1_step2 hc h2 (by simp only [List.length_nil] at l2; omega), if_neg (addAll_ne _ h2)]
     exact v1_end
 · have n2 : addAll (addAll [] a.vars) b.vars ≠ [] := addAll_ne _ h1
   rw [if_neg h1, v1_step1 hb h1 (by omega), v1_step2 hc n2 (by omega), if_neg (addAll_ne _ n2)]
   exact v1_end
theorem Variables_Z (ha : a.ks.size < 2^25) (hb : b.ks.size < 2^25) (hc : c.ks.size < 2^25) : Z base14v (.call 15 [.dat (ru a b c)] []) = some (.ret (.dat (strD (rvars a b c))) []) := by
 have h := vars_loop ha hb hc
 refine Z_call (pf := F15) rfl rfl ?_
 have h' := (Z_loop_cong (k := 0) (b := F15l0) (fr := [(3, .ptr 1 0), (4, .ptr 3 0), (12, .dat (ru a b c)), (13, .int 0)]) (σ := [.cells [.int a.k, .int a.n, .str a.s, .dat a.d, .int b.k, .int b.n, .str b.s, .dat b.d, .int c.k, .int c.n, .str c.s, .dat c.d], .cells [.dat (.lit (.slice none 0 0))], .map [], .cells [.mp 2]]) (by simp [vfr, U0])).trans h
 simp only [ru, Nd.d] at h'
 by_cases hn : rvars a b c = []
 · rw [if_pos hn] at h'
   rw [hn]
   simp [F15, h', strD]
 · rw [if_neg hn] at h'
   rw [strD_ne hn]
   simp [F15, h']
end
end Go.Pm
end SE7
section SE8
namespace Go.Pm
open F
section
variable {a b c : Nd}
theorem rv_step0 {l : List ByteArray} (hb : a.ks.size + l.length < 2^28) : Z base14v (.loop 0 F16l0 [(1, .ptr 0 0), (3, .dat (strD l)), (4, .int 0)] [rbox a b c]) = Z base14v (.loop 0 F16l0 [(1, .ptr 0 0), (3, .dat (strD (addAll l a.vars))), (4, .int 1)] [rbox a b c]) := by
 have w1 := wrap64 1 (by omega)
 have h1 := names_Z a.k a.n a.s a.f a.ks l (by omega)
 rw [show (Fo.cons a.k a.n a.s a.f a.ks .nil).vars = a.vars by simp [Fo.vars, Nd.vars]] at h1
 conv => lhs; rw [Z_loop_eq]
 simp [loopStep, run_F16l0, w1, h1, Nd.d]
theorem rv_step1 {l : List ByteArray} (hb : b.ks.size + l.length < 2^28) : Z base14v (.loop 0 F16l0 [(1, .ptr 0 0), (3, .dat (strD l)), (4, .int 1)] [rbox a b c]) = Z base14v (.loop 0 F16l0 [(1, .ptr 0 0), (3, .dat (strD (addAll l b.vars))), (4, .int 2)] [rbox a b c]) := by
 have w1 := wrap64 2 (by omega)
 have h1 := names_Z b.k b.n b.s b.f b.ks l (by omega)
 rw [show (Fo.cons b.k b.n b.s b.f b.ks .nil).vars = b.vars by simp [Fo.vars, Nd.vars]] at h1
 conv => lhs; rw [Z_loop_eq]
 simp [loopStep, run_F16l0, w1, h1, Nd.d]
theorem rv_step2 {l : List ByteArray} (hb : c.ks.size + l.length < 2^28) : Z base14v (.loop 0 F16l0 [(1, .ptr 0 0), (3, .dat (strD l)), (4, .int 2)] [rbox a b c]) = Z base14v (.loop 0 F16l0 [(1, .ptr 0 0), (3, .dat (strD (addAll l c.vars))), (4, .int 3)] [rbox a b c]) := by
 have w1 := wrap64 3 (by omega)
 have h1 := names_Z c.k c.n c.s c.f c.ks l (by omega)
 rw [show (Fo.cons c.k c.n c.s c.f c.ks .nil).vars = c.vars by simp [Fo.vars, Nd.vars]] at h1
 conv => lhs; rw [Z_loop_eq]
 simp [loopStep, run_F16l0, w1, h1, Nd.d]
theorem rv_end {l : List ByteArray} : Z base14v (.loop 0 F16l0 [(1, .ptr 0 0), (3, .dat (strD l)), (4, .int 3)] [rbox a b c]) = some (.out (.exit 0) [(1, .ptr 0 0), (3, .dat (strD l)), (4, .int 3), (6, .bool false)] [rbox a b c]) := by
 rw [Z_loop_eq]
 simp [loopStep, run_F16l0]
theorem rVariables_Z (ha : a.ks.size < 2^25) (hb : b.ks.size < 2^25) (hc : c.ks.size < 2^25) : Z base14v (.call 16 [.dat (ru a b c)] []) = some (.ret (.dat (strD (rvars a b c))) []) := by
 have la := nd_vars_len a
 have lb := nd_vars_len b
 have l1 := addAll_len a.vars []
 have l2 := addAll_len b.vars (addAll [] a.vars)
 have e : rvars a b c = addAll (addAll (addAll [] a.vars) b.vars) c.vars := by unfold rvars; rw [addAll_app, addAll_app]
 simp only [List.length_nil] at l1
 have h := (rv_step0 (a := a) (b := b) (c := c) (l := []) (by simp; omega)).trans ((rv_step1 (by omega)).trans ((rv_step2 (by omega)).trans rv_end))
 rw [<- e, show strD [] = .lit (.slice none 0 0) from rfl] at h
 refine Z_call (pf := F16) rfl rfl ?_
 simp only [rbox, Nd.d] at h
 simp [F16, h]
end
end Go.Pm
end SE8
