/- The given program, held against the abstract one: function by function, by the kernel. -/
import Derived.Test.YtebhnnjdljcicaaProg
import Derived.Test.YtebhnnjdljcicaaPmY
import Derived.Test.YtebhnnjdljcicaaPmF14
import Derived.KernelRfl
namespace Go.Proofs.Ytebhnnjdljcicaa.T
open Go.Pm Go.Pm.F
def ids : FuncId → Option Nat := fun f => match f with
  | 3 => some 0
  | 4 => some 1
  | 5 => some 2
  | 6 => some 3
  | 7 => some 4
  | 8 => some 5
  | 9 => some 6
  | 10 => some 7
  | 11 => some 8
  | 12 => some 9
  | 13 => some 10
  | 14 => some 11
  | 15 => some 12
  | 16 => some 13
  | 17 => some 14
  | 18 => some 15
  | 19 => some 16
  | 20 => some 17
  | 21 => some 18
  | 22 => some 19
  | 23 => some 20
  | 24 => some 21
  | 25 => some 22
  | 26 => some 23
  | 27 => some 24
  | 28 => some 25
  | 29 => some 26
  | 30 => some 27
  | 31 => some 28
  | 32 => some 29
  | 33 => some 30
  | 34 => some 31
  | 35 => some 32
  | 36 => some 33
  | 37 => some 34
  | 38 => some 35
  | 39 => some 36
  | 40 => some 37
  | 41 => some 38
  | 42 => some 39
  | _ => none
def fidF : Nat → FuncId := fun k => match k with
  | 0 => 3
  | 1 => 4
  | 2 => 5
  | 3 => 6
  | 4 => 7
  | 5 => 8
  | 6 => 9
  | 7 => 10
  | 8 => 11
  | 9 => 12
  | 10 => 13
  | 11 => 14
  | 12 => 15
  | 13 => 16
  | 14 => 17
  | 15 => 18
  | 16 => 19
  | 17 => 20
  | 18 => 21
  | 19 => 22
  | 20 => 23
  | 21 => 24
  | 22 => 25
  | 23 => 26
  | 24 => 27
  | 25 => 28
  | 26 => 29
  | 27 => 30
  | 28 => 31
  | 29 => 32
  | 30 => 33
  | 31 => 34
  | 32 => 35
  | 33 => 36
  | 34 => 37
  | 35 => 38
  | 36 => 39
  | 37 => 40
  | 38 => 41
  | 39 => 42
  | _ => 0
def fid : Fid := ⟨fidF, fun N c pc => ∃ K, comp Try.prog ids N K c = some pc⟩
theorem tie0 : compF Try.prog ids (fun i => ([[0], [3], [2]] : List (List Nat)).getD i []) false Try.f3 = some F0 := by kernel_rfl
theorem tie1 : compF Try.prog ids (fun i => ([[0], [3], [2]] : List (List Nat)).getD i []) false Try.f4 = some F1 := by kernel_rfl
theorem tie2 : compF Try.prog ids (fun i => ([[0, 1, 2], [1, 2, 7], [2, 7, 8], [2, 7, 8, 9], [2, 7, 8, 9, 10], [2, 7, 8, 9, 10, 11], [2, 7, 8, 9, 10, 11, 12], [7, 8, 9, 10, 11, 12, 13], [9, 10, 14], [9, 14, 15], [14, 16], [14, 16, 17], [14, 16, 17, 81], [14, 16, 17], [14, 16, 17, 18], [14, 16, 17, 96], [6], [6]] : List (List Nat)).getD i []) false Try.f5 = some F2 := by kernel_rfl
theorem tie3 : compF Try.prog ids (fun i => ([[0, 1, 2], [1, 2, 7], [2, 7, 8], [2, 7, 8, 9], [2, 7, 8, 9, 21], [6], [2, 7, 8, 9, 11], [2, 7, 8, 9, 11, 31], [6], [7, 12], [6]] : List (List Nat)).getD i []) false Try.f6 = some F3 := by kernel_rfl
theorem tie4 : compF Try.prog ids (fun i => ([[0], [3], [3, 4], [3, 4, 5], [3, 4, 5, 6], [3, 4, 5, 6, 16], [3, 4, 5, 6], [3, 4, 5, 6, 7], [3, 4, 5, 6, 7], [3, 4, 5, 6, 7], [3, 4, 5, 6, 8], [3, 4, 5, 6, 8, 9], [3, 4, 5, 6, 8, 9, 37], [3, 4, 5, 6, 8, 9], [3, 4, 5, 6, 8, 9, 10], [3, 4, 5, 6, 8, 9, 10, 11], [3, 4, 5, 6, 8, 9, 10, 11, 43], [3, 4, 5, 6, 8, 9, 10, 11], [3, 4, 5, 6, 8, 9, 10, 11], [3, 4, 5, 6, 8, 9, 59], [3, 4, 5, 6, 8, 9], [3, 4, 5, 12], [3, 5, 12, 69], [2], [3, 5, 12, 77], [2], [2]] : List (List Nat)).getD i []) false Try.f7 = some F4 := by kernel_rfl
theorem tie5 : compF Try.prog ids (fun i => ([[0, 1], [1, 5], [5, 6], [5, 6, 7], [5, 6, 7, 8], [5, 6, 7, 8, 18], [5, 6, 7, 8], [5, 6, 7, 8], [5, 6, 7, 9], [5, 6, 7, 9, 10], [6, 9, 10, 45], [4], [6, 9, 10, 11], [6, 9, 10, 11, 49], [6, 9, 10, 11], [6, 9, 10, 11, 62], [4], [4]] : List (List Nat)).getD i []) false Try.f8 = some F5 := by kernel_rfl
theorem tie6 : compF Try.prog ids (fun i => ([[0, 1], [1, 5], [1, 5, 6], [1, 5, 6, 7], [1, 5, 6, 7, 8], [1, 5, 6, 7, 8, 17], [1, 5, 6, 7, 8], [1, 5, 6, 7, 8, 9], [1, 5, 6, 7, 8, 9], [1, 5, 6, 7, 8], [5, 6, 7, 10], [5, 6, 7, 10], [5, 7, 10], [5, 7, 10, 11], [4]] : List (List Nat)).getD i []) false Try.f9 = some F6 := by kernel_rfl
theorem tie7 : compF Try.prog ids (fun i => ([[0, 2], [2, 3], [2]] : List (List Nat)).getD i []) false Try.f10 = some F7 := by kernel_rfl
theorem tie8 : compF Try.prog ids (fun i => ([[1], [2]] : List (List Nat)).getD i []) false Try.f11 = some F8 := by kernel_rfl
theorem tie9 : compF Try.prog ids (fun i => ([[1], [1, 19], [2], [1, 22], [2], [1, 35], [2], [1, 3], [1, 3, 4], [1, 3, 4, 54], [1, 3], [1, 3, 4], [1, 3, 4, 63], [1, 3, 4], [1, 3, 4, 5], [1, 3, 4, 5, 68], [1, 3, 4, 5], [1, 3, 4, 5, 6], [1, 3, 4, 5, 79], [2], [2]] : List (List Nat)).getD i []) false Try.f12 = some F9 := by kernel_rfl
theorem tie10 : compF Try.prog ids (fun i => ([[], [1], [1, 2], [1, 2, 3], [1, 2, 4], [2, 4, 5], [4, 5, 6], [4, 5, 6, 7], [0]] : List (List Nat)).getD i []) false Try.f13 = some F10 := by kernel_rfl
theorem tie11 : compF Try.prog ids (fun i => ([[0, 2], [2, 3], [2, 3, 4], [2, 3, 4, 5], [2, 3, 4, 5, 11], [2, 3, 4, 5], [2, 3, 4, 5, 16], [2, 3, 4, 5], [2]] : List (List Nat)).getD i []) false Try.f14 = some F11 := by kernel_rfl
theorem tie12 : compF Try.prog ids (fun i => ([[1], [1, 3], [1, 3, 8, 9], [1, 3, 8, 9, 10], [1, 3, 5, 8, 9], [1, 3, 8, 9, 20], [2], [1, 3, 8, 9], [25], [2], [2]] : List (List Nat)).getD i []) false Try.f15 = some F12 := by kernel_rfl
theorem tie13 : compF Try.prog ids (fun i => ([[1], [1, 3], [1, 3, 6], [1, 3], [1, 3, 14], [1, 3, 4], [1, 3, 21], [2], [25], [2], [2]] : List (List Nat)).getD i []) false Try.f16 = some F13 := by kernel_rfl
theorem tie14 : compF Try.prog ids (fun i => ([[0, 1], [0, 1, 10], [4], [0, 1, 5], [0, 1, 5, 14], [0, 1, 5], [0, 1, 5, 25], [4], [4]] : List (List Nat)).getD i []) false Try.f17 = some F14 := by kernel_rfl
theorem tie15 : compF Try.prog ids (fun i => ([[1], [1, 3], [1, 3, 4], [3, 4, 12, 13], [3, 4, 12, 13, 14], [3, 4, 6, 12, 13], [3, 4, 12, 13, 17], [3, 4, 7], [3, 4, 7, 26], [3, 4, 7, 9], [3, 4, 7, 35], [3, 7], [], [3, 4, 12, 13], [2]] : List (List Nat)).getD i []) false Try.f18 = some F15 := by kernel_rfl
theorem tie16 : compF Try.prog ids (fun i => ([[1], [1, 3], [1, 3, 4], [1, 3, 4, 6], [1, 3, 4], [1, 3, 4], [2]] : List (List Nat)).getD i []) false Try.f19 = some F16 := by kernel_rfl
theorem tie17 : compF Try.prog ids (fun i => ([[0, 1], [0, 1, 6], [0, 1], [4]] : List (List Nat)).getD i []) false Try.f20 = some F17 := by kernel_rfl
theorem tie18 : compF Try.prog ids (fun i => ([[1, 2], [1, 2, 3], [2, 3], [2]] : List (List Nat)).getD i []) false Try.f21 = some F18 := by kernel_rfl
theorem tie19 : compF Try.prog ids (fun i => ([[1, 2, 4, 7, 8], [1, 2, 4, 7, 8, 10], [1, 2, 4, 7, 8, 10, 11], [1, 2, 4, 7, 8, 11, 20], [1, 2, 4, 7, 8, 11], [1, 2, 4, 7, 8, 11, 22], [8, 9], [1, 2, 4, 7, 8, 11, 12], [1, 2, 4, 7, 8, 11, 12, 13], [1, 2, 4, 7, 8, 11, 12, 13, 35], [1, 2, 4, 7, 8, 11, 12, 13], [1, 2, 4, 7, 8, 11, 12, 13, 14, 15], [1, 2, 4, 7, 8, 11, 12, 13, 15], [1, 2, 4, 7, 8, 11, 12, 13], [8, 9]] : List (List Nat)).getD i []) false Try.f22 = some F19 := by kernel_rfl
theorem tie20 : compF Try.prog ids (fun i => ([[0], [0, 8], [2], [0, 3], [0, 3, 4], [0, 3, 4, 5], [0, 3, 4, 5, 11], [0, 3, 4, 5], [0, 3, 4, 5, 6], [0, 3, 4, 5, 6, 17], [0, 3, 4, 5, 6], [0, 3, 4, 5], [4, 28], [2], [2]] : List (List Nat)).getD i []) false Try.f23 = some F20 := by kernel_rfl
theorem tie21 : compF Try.prog ids (fun i => ([[1, 2, 4], [1, 2, 4, 5], [1, 2, 4, 5, 21], [1, 2, 4, 5], [1, 2, 4, 5, 6], [1, 2, 4, 5, 6, 31], [1, 2, 4, 5, 6], [1, 2, 4, 5, 6], [4]] : List (List Nat)).getD i []) false Try.f24 = some F21 := by kernel_rfl
theorem tie22 : compF Try.prog ids (fun i => ([[0], [3], [2]] : List (List Nat)).getD i []) false Try.f25 = some F22 := by kernel_rfl
theorem tie23 : compF Try.prog ids (fun i => ([[0, 1], [0, 1, 5], [4]] : List (List Nat)).getD i []) false Try.f26 = some F23 := by kernel_rfl
theorem tie24 : compF Try.prog ids (fun i => ([[0, 1, 2, 6], [0, 1, 2, 6, 10], [0, 1, 2, 6], [0, 1, 2, 6, 7], [0, 2, 6, 7, 16], [0, 2, 6, 7, 22], [6], [0, 2, 6, 7, 27], [6], [0, 2, 6, 35], [6], [6], [0, 2, 6, 7, 67], [0, 6, 7, 70], [6], [0, 6, 77], [6], [6], [0, 2, 6, 7, 86], [6], [0, 2, 6, 94], [6], [6]] : List (List Nat)).getD i []) false Try.f27 = some F24 := by kernel_rfl
theorem tie25 : compF Try.prog ids (fun i => ([[0, 1], [0, 1], [0, 1, 22], [4], [4]] : List (List Nat)).getD i []) false Try.f28 = some F25 := by kernel_rfl
theorem tie26 : compF Try.prog ids (fun i => ([[0], [0, 1, 2, 3], [0]] : List (List Nat)).getD i []) false Try.f29 = some F26 := by kernel_rfl
theorem tie27 : compF Try.prog ids (fun i => ([[2, 3], [2, 3, 5, 6], [2, 3, 5, 6, 16], [2, 3, 5, 6, 16, 17], [2, 3, 5, 6, 16, 19], [2, 3, 5, 6, 16, 19], [2, 3, 5, 6, 16, 19], [2, 3, 5, 6, 16, 23], [2, 3, 5, 6, 16, 25], [2, 3, 5, 6, 27], [32], [4], [4], [4], [2, 3, 5, 7], [2, 5, 7, 35], [2, 5, 7], [7, 40], [4], [2, 5, 6, 8, 9], [8, 66], [4], [4]] : List (List Nat)).getD i []) false Try.f30 = some F27 := by kernel_rfl
theorem tie28 : compF Try.prog ids (fun i => ([[0, 1], [0, 1, 5], [0, 1, 5, 9], [0, 1, 5], [0, 1, 5, 17], [4], [4]] : List (List Nat)).getD i []) false Try.f31 = some F28 := by kernel_rfl
theorem tie29 : compF Try.prog ids (fun i => ([[0, 1, 4], [0, 1, 4, 5], [0, 1, 4, 5, 6], [0, 1, 4, 5, 6, 11], [0, 1, 4, 5, 6], [0, 1, 4, 5, 6], [4]] : List (List Nat)).getD i []) false Try.f32 = some F29 := by kernel_rfl
theorem tie30 : compF Try.prog ids (fun i => ([[2, 3], [2, 3, 5, 6], [2, 3, 5, 6, 13], [2, 3, 5, 6, 13, 14], [2, 3, 5, 6, 13, 16], [2, 3, 5, 6, 13, 18], [2, 3, 5, 13, 20], [2, 3, 5, 13, 20], [2, 3, 13, 23], [2, 3, 25], [4], [2, 5, 6, 38], [4], [4], [2, 3, 52], [4], [4], [4], [4], [4]] : List (List Nat)).getD i []) false Try.f33 = some F30 := by kernel_rfl
theorem tie31 : compF Try.prog ids (fun i => ([[1], [1, 12], [1, 3], [1, 3, 17], [1, 3], [1, 3, 4], [1, 3, 27], [2], [2], [1, 35], [1, 5], [1, 5, 6], [1, 5, 6, 45], [1, 5, 6], [1, 5, 6, 7], [1, 5, 6, 55], [2], [2], [1, 66], [2], [1, 8], [1, 8, 71], [1, 8], [1, 8, 9], [1, 8, 81], [2], [2]] : List (List Nat)).getD i []) false Try.f34 = some F31 := by kernel_rfl
theorem tie32 : compF Try.prog ids (fun i => ([[1], [2]] : List (List Nat)).getD i []) false Try.f35 = some F32 := by kernel_rfl
theorem tie33 : compF Try.prog ids (fun i => ([[1, 2], [1, 2, 21], [1, 2, 5], [2, 5], [1, 2], [1, 2, 6], [1, 2, 6, 34], [1, 2, 6], [1, 2, 6], [4]] : List (List Nat)).getD i []) false Try.f36 = some F33 := by kernel_rfl
theorem tie34 : compF Try.prog ids (fun i => ([[0, 1], [4]] : List (List Nat)).getD i []) false Try.f37 = some F34 := by kernel_rfl
theorem tie35 : compF Try.prog ids (fun i => ([[1, 2, 3], [1, 2, 3, 7], [1, 2, 3], [1, 2, 3, 15], [2, 3], [2, 3]] : List (List Nat)).getD i []) false Try.f38 = some F35 := by kernel_rfl
theorem tie36 : compF Try.prog ids (fun i => ([[0, 1, 4], [0, 1, 4, 5], [0, 1, 4, 5, 14], [0, 1, 4, 5], [0, 1, 4, 5, 16], [4], [0, 1, 4, 5, 25], [0, 4, 6], [4], [0, 1, 4, 5, 37], [4], [0, 1, 4, 5, 45], [4], [0, 1, 4, 48], [4], [4]] : List (List Nat)).getD i []) false Try.f39 = some F36 := by kernel_rfl
theorem tie37 : compF Try.prog ids (fun i => ([[1, 2], [2, 7, 8, 9], [2, 7, 8, 9, 10], [2, 6, 7, 8, 9], [2, 7, 8, 9, 16], [4], [2, 7, 8, 9], [4]] : List (List Nat)).getD i []) false Try.f40 = some F37 := by kernel_rfl
theorem tie38 : compF Try.prog ids (fun i => ([[]] : List (List Nat)).getD i []) false Try.f41 = some F38 := by kernel_rfl
theorem tie39 : compF Try.prog ids (fun i => ([[1, 2], [1, 2, 10], [4], [1, 12, 13, 14], [1, 12, 13, 14, 15], [1, 6, 12, 13, 14], [1, 12, 13, 14, 21], [4], [1, 12, 13, 14], [4]] : List (List Nat)).getD i []) false Try.f42 = some F39 := by kernel_rfl
theorem hid : Ties ids fid := fun f g h => by
  unfold ids at h
  split at h <;> first | (cases h; rfl) | cases h
theorem hcr : Codes Try.prog ids fid := fun _ _ _ => Iff.rfl
theorem mixed : Try.prog.follows .mixedOrders = true := by kernel_rfl
theorem tied : Tied Try.prog ids fid prog := fun f pf h => by
  unfold prog at h
  split at h
  · cases h; exact ⟨Try.f3, _, _, Try.func3, tie0⟩
  · cases h; exact ⟨Try.f4, _, _, Try.func4, tie1⟩
  · cases h; exact ⟨Try.f5, _, _, Try.func5, tie2⟩
  · cases h; exact ⟨Try.f6, _, _, Try.func6, tie3⟩
  · cases h; exact ⟨Try.f7, _, _, Try.func7, tie4⟩
  · cases h; exact ⟨Try.f8, _, _, Try.func8, tie5⟩
  · cases h; exact ⟨Try.f9, _, _, Try.func9, tie6⟩
  · cases h; exact ⟨Try.f10, _, _, Try.func10, tie7⟩
  · cases h; exact ⟨Try.f11, _, _, Try.func11, tie8⟩
  · cases h; exact ⟨Try.f12, _, _, Try.func12, tie9⟩
  · cases h; exact ⟨Try.f13, _, _, Try.func13, tie10⟩
  · cases h; exact ⟨Try.f14, _, _, Try.func14, tie11⟩
  · cases h; exact ⟨Try.f15, _, _, Try.func15, tie12⟩
  · cases h; exact ⟨Try.f16, _, _, Try.func16, tie13⟩
  · cases h; exact ⟨Try.f17, _, _, Try.func17, tie14⟩
  · cases h; exact ⟨Try.f18, _, _, Try.func18, tie15⟩
  · cases h; exact ⟨Try.f19, _, _, Try.func19, tie16⟩
  · cases h; exact ⟨Try.f20, _, _, Try.func20, tie17⟩
  · cases h; exact ⟨Try.f21, _, _, Try.func21, tie18⟩
  · cases h; exact ⟨Try.f22, _, _, Try.func22, tie19⟩
  · cases h; exact ⟨Try.f23, _, _, Try.func23, tie20⟩
  · cases h; exact ⟨Try.f24, _, _, Try.func24, tie21⟩
  · cases h; exact ⟨Try.f25, _, _, Try.func25, tie22⟩
  · cases h; exact ⟨Try.f26, _, _, Try.func26, tie23⟩
  · cases h; exact ⟨Try.f27, _, _, Try.func27, tie24⟩
  · cases h; exact ⟨Try.f28, _, _, Try.func28, tie25⟩
  · cases h; exact ⟨Try.f29, _, _, Try.func29, tie26⟩
  · cases h; exact ⟨Try.f30, _, _, Try.func30, tie27⟩
  · cases h; exact ⟨Try.f31, _, _, Try.func31, tie28⟩
  · cases h; exact ⟨Try.f32, _, _, Try.func32, tie29⟩
  · cases h; exact ⟨Try.f33, _, _, Try.func33, tie30⟩
  · cases h; exact ⟨Try.f34, _, _, Try.func34, tie31⟩
  · cases h; exact ⟨Try.f35, _, _, Try.func35, tie32⟩
  · cases h; exact ⟨Try.f36, _, _, Try.func36, tie33⟩
  · cases h; exact ⟨Try.f37, _, _, Try.func37, tie34⟩
  · cases h; exact ⟨Try.f38, _, _, Try.func38, tie35⟩
  · cases h; exact ⟨Try.f39, _, _, Try.func39, tie36⟩
  · cases h; exact ⟨Try.f40, _, _, Try.func40, tie37⟩
  · cases h; exact ⟨Try.f41, _, _, Try.func41, tie38⟩
  · cases h; exact ⟨Try.f42, _, _, Try.func42, tie39⟩
  · cases h
end Go.Proofs.Ytebhnnjdljcicaa.T
