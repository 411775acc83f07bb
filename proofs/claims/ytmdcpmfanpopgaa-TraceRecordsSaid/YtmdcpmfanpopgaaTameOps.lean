/- Written by wip/tools/gentame.py: the model's operations in use here are plain ones: no word to the outside, no object laid anew. -/
import Derived.Test.YtmdcpmfanpopgaaTameOpsA
import Derived.Laws.Sem
namespace Go.Proofs.Ytmdcpmfanpopgaa
open Go Go.Conc
set_option linter.unusedSimpArgs false
set_option linter.unusedVariables false
set_option maxHeartbeats 1000000
section
variable {P : Program}
theorem t_floatToInt (k : FloatKind) (n : Nat) (d : IntKind) : T P (Conv.floatToInt k n d) := by
  unfold Conv.floatToInt
  repeat' first
    | (with_reducible first | refine Tame.bind (Q := fun _ => True) ?_ (fun _ _ => ?_) | exact t_pure _ | exact t_stuck _ | exact t_unsupported _ | exact t_program | exact t_choose _ | assumption)
    | intro _
    | dsimp only
    | split
    | exact Tame.halt _ (.inl ⟨_, rfl⟩)

theorem t_complexToComplex (k : FloatKind) (n m : Nat) (d : FloatKind) : T P (Conv.complexToComplex k n m d) := by
  unfold Conv.complexToComplex
  repeat' first
    | (with_reducible first | refine Tame.bind (Q := fun _ => True) ?_ (fun _ _ => ?_) | exact t_pure _ | exact t_stuck _ | exact t_unsupported _ | exact t_floatToFloat _ _ _ | exact t_program | assumption)
    | intro _
    | dsimp only
    | split
    | exact Tame.halt _ (.inl ⟨_, rfl⟩)

theorem t_intToString (n : Int) : T P (Conv.intToString n) := by
  unfold Conv.intToString
  repeat' first
    | (with_reducible first | refine Tame.bind (Q := fun _ => True) ?_ (fun _ _ => ?_) | exact t_pure _ | exact t_stuck _ | exact t_unsupported _ | exact t_program | assumption)
    | intro _
    | dsimp only
    | split
    | exact Tame.halt _ (.inl ⟨_, rfl⟩)

theorem t_stringToBytes (e : TypeId) (s : ByteArray) : T P (Conv.stringToBytes e s) := by
  unfold Conv.stringToBytes
  repeat' first
    | (with_reducible first | refine Tame.bind (Q := fun _ => True) ?_ (fun _ _ => ?_) | exact t_pure _ | exact t_stuck _ | exact t_unsupported _ | exact t_newRow _ _ | exact t_markStringish _ | exact t_program | exact t_choose _ | assumption)
    | intro _
    | dsimp only
    | split
    | exact Tame.halt _ (.inl ⟨_, rfl⟩)

theorem t_stringToRunes (e : TypeId) (s : ByteArray) : T P (Conv.stringToRunes e s) := by
  unfold Conv.stringToRunes
  repeat' first
    | (with_reducible first | refine Tame.bind (Q := fun _ => True) ?_ (fun _ _ => ?_) | exact t_pure _ | exact t_stuck _ | exact t_unsupported _ | exact t_newRow _ _ | exact t_program | exact t_choose _ | assumption)
    | intro _
    | dsimp only
    | split
    | exact Tame.halt _ (.inl ⟨_, rfl⟩)

theorem t_bytesToString (x : Value) : T P (Conv.bytesToString x) := by
  unfold Conv.bytesToString
  repeat' first
    | (with_reducible first | refine Tame.bind (Q := fun _ => True) ?_ (fun _ _ => ?_) | exact t_pure _ | exact t_stuck _ | exact t_unsupported _ | exact t_loadCells _ _ | exact t_program | refine tame_range _ _ (fun _ _ => ?_) _ | refine tame_array _ _ (fun _ _ => ?_) _ | assumption)
    | intro _
    | dsimp only
    | split
    | exact Tame.halt _ (.inl ⟨_, rfl⟩)

theorem t_runesToString (x : Value) : T P (Conv.runesToString x) := by
  unfold Conv.runesToString
  repeat' first
    | (with_reducible first | refine Tame.bind (Q := fun _ => True) ?_ (fun _ _ => ?_) | exact t_pure _ | exact t_stuck _ | exact t_unsupported _ | exact t_loadCells _ _ | exact t_program | refine tame_range _ _ (fun _ _ => ?_) _ | refine tame_array _ _ (fun _ _ => ?_) _ | assumption)
    | intro _
    | dsimp only
    | split
    | exact Tame.halt _ (.inl ⟨_, rfl⟩)

theorem t_seenAt (a : Addr) : T P (Conv.seenAt a) := by
  unfold Conv.seenAt
  repeat' first
    | (with_reducible first | refine Tame.bind (Q := fun _ => True) ?_ (fun _ _ => ?_) | exact t_pure _ | exact t_stuck _ | exact t_unsupported _ | exact t_viewAt _ | exact t_program | exact t_shape _ | assumption)
    | intro _
    | dsimp only
    | split
    | exact Tame.halt _ (.inl ⟨_, rfl⟩)

theorem t_unsafePointer (s d : TypeId) (x : Value) : T P (Conv.unsafePointer s d x) := by
  unfold Conv.unsafePointer
  repeat' first
    | (with_reducible first | refine Tame.bind (Q := fun _ => True) ?_ (fun _ _ => ?_) | exact t_pure _ | exact t_stuck _ | exact t_unsupported _ | exact t_seenAt _ | exact t_variablesAt _ _ _ | exact t_sizeOf _ | exact t_underlying _ | exact t_asNumber _ _ | exact t_cellsIn _ | exact t_program | exact t_shape _ | exact t_newObj _ | assumption)
    | intro _
    | dsimp only
    | split
    | exact Tame.halt _ (.inl ⟨_, rfl⟩)

theorem t_convert (s d : TypeId) (x : Value) : T P (convert s d x) := by
  unfold convert
  repeat' first
    | (with_reducible first | refine Tame.bind (Q := fun _ => True) ?_ (fun _ _ => ?_) | exact t_pure _ | exact t_stuck _ | exact t_unsupported _ | exact t_unsafePointer _ _ _ | exact t_runesToString _ | exact t_bytesToString _ | exact t_stringToRunes _ _ | exact t_stringToBytes _ _ | exact t_intToString _ | exact t_complexToComplex _ _ _ _ | exact t_floatToInt _ _ _ | exact t_intToFloat _ _ | exact t_intToInt _ _ | exact t_floatToFloat _ _ _ | exact t_underlying _ | exact t_markStringish _ | exact t_program | assumption)
    | intro _
    | dsimp only
    | split
    | exact Tame.halt _ (.inl ⟨_, rfl⟩)

theorem t_alloc (e : TypeId) (h : Bool) (o : Value) : T P (Instr.alloc e h o) := by
  unfold Instr.alloc
  repeat' first
    | (with_reducible first | refine Tame.bind (Q := fun _ => True) ?_ (fun _ _ => ?_) | exact t_pure _ | exact t_stuck _ | exact t_unsupported _ | exact t_newVar _ _ | exact t_storeVar _ _ _ | exact t_zeroValue _ | exact t_program | assumption)
    | intro _
    | dsimp only
    | split
    | exact Tame.halt _ (.inl ⟨_, rfl⟩)

theorem t_box (e : TypeId) (v : Value) : T P (Instr.box e v) := by
  unfold Instr.box
  repeat' first
    | (with_reducible first | refine Tame.bind (Q := fun _ => True) ?_ (fun _ _ => ?_) | exact t_pure _ | exact t_stuck _ | exact t_unsupported _ | exact t_newVar _ _ | exact t_program | assumption)
    | intro _
    | dsimp only
    | split
    | exact Tame.halt _ (.inl ⟨_, rfl⟩)

theorem t_build (t : TypeId) (p : Array (Nat × Value)) : T P (Instr.build t p) := by
  unfold Instr.build
  repeat' first
    | (with_reducible first | refine Tame.bind (Q := fun _ => True) ?_ (fun _ _ => ?_) | exact t_pure _ | exact t_stuck _ | exact t_unsupported _ | exact t_sizeOf _ | exact t_zeroValue _ | exact t_underlying _ | exact t_program | refine tame_mapM _ (fun _ => ?_) _)
    | assumption
    | intro _
    | dsimp only
    | split
    | exact Tame.halt _ (.inl ⟨_, rfl⟩)

theorem t_buildSlice (t : TypeId) (n : Nat) (p : Array (Nat × Value)) : T P (Instr.buildSlice t n p) := by
  unfold Instr.buildSlice
  repeat' first
    | (with_reducible first | refine Tame.bind (Q := fun _ => True) ?_ (fun _ _ => ?_) | exact t_pure _ | exact t_stuck _ | exact t_unsupported _ | exact t_newRow _ _ | exact t_sizeOf _ | exact t_zeroValue _ | exact t_underlying _ | exact t_program | assumption)
    | intro _
    | dsimp only
    | split
    | exact Tame.halt _ (.inl ⟨_, rfl⟩)

theorem t_sureAddr (v : Value) : T P (Instr.sureAddr v) := by
  unfold Instr.sureAddr
  repeat' first
    | (with_reducible first | refine Tame.bind (Q := fun _ => True) ?_ (fun _ _ => ?_) | exact t_pure _ | exact t_stuck _ | exact t_unsupported _ | exact t_program | assumption)
    | intro _
    | dsimp only
    | split
    | exact Tame.halt _ (.inl ⟨_, rfl⟩)

theorem t_loadAt (t : TypeId) (v : Value) : T P (Instr.loadAt t v) := by
  unfold Instr.loadAt
  repeat' first
    | (with_reducible first | refine Tame.bind (Q := fun _ => True) ?_ (fun _ _ => ?_) | exact t_pure _ | exact t_stuck _ | exact t_unsupported _ | exact t_sureAddr _ | exact t_loadVar _ _ | exact t_program | assumption)
    | intro _
    | dsimp only
    | split
    | exact Tame.halt _ (.inl ⟨_, rfl⟩)

theorem t_storeAt (t : TypeId) (v x : Value) : T P (Instr.storeAt t v x) := by
  unfold Instr.storeAt
  repeat' first
    | (with_reducible first | refine Tame.bind (Q := fun _ => True) ?_ (fun _ _ => ?_) | exact t_pure _ | exact t_stuck _ | exact t_unsupported _ | exact t_sureAddr _ | exact t_storeVar _ _ _ | exact t_program | assumption)
    | intro _
    | dsimp only
    | split
    | exact Tame.halt _ (.inl ⟨_, rfl⟩)

theorem t_fieldAt (t : TypeId) (v : Value) (f : Nat) : T P (Instr.fieldAt t v f) := by
  unfold Instr.fieldAt
  repeat' first
    | (with_reducible first | refine Tame.bind (Q := fun _ => True) ?_ (fun _ _ => ?_) | exact t_pure _ | exact t_stuck _ | exact t_unsupported _ | exact t_sureAddr _ | exact t_fieldPlace _ _ | exact t_underlying _ | exact t_program | assumption)
    | intro _
    | dsimp only
    | split
    | exact Tame.halt _ (.inl ⟨_, rfl⟩)

theorem t_indexAt (t : TypeId) (v i : Value) : T P (Instr.indexAt t v i) := by
  unfold Instr.indexAt
  repeat' first
    | (with_reducible first | refine Tame.bind (Q := fun _ => True) ?_ (fun _ _ => ?_) | exact t_pure _ | exact t_stuck _ | exact t_unsupported _ | exact t_sureAddr _ | exact t_asIntOf _ | exact t_boundsPanic _ _ _ _ | exact t_sizeOf _ | exact t_underlying _ | exact t_program | assumption)
    | intro _
    | dsimp only
    | split
    | exact Tame.halt _ (.inl ⟨_, rfl⟩)

theorem t_sliceBound (x : Value) (y : Nat) (c : BoundsCode) : T P (Instr.sliceBound x y c) := by
  unfold Instr.sliceBound
  repeat' first
    | (with_reducible first | refine Tame.bind (Q := fun _ => True) ?_ (fun _ _ => ?_) | exact t_pure _ | exact t_stuck _ | exact t_unsupported _ | exact t_asIntOf _ | exact t_boundsPanic _ _ _ _ | exact t_program | assumption)
    | intro _
    | dsimp only
    | split
    | exact Tame.halt _ (.inl ⟨_, rfl⟩)

theorem t_sliceBounds (s : Bool) (x y : Nat) (l h m : Option Value) : T P (Instr.sliceBounds s x y l h m) := by
  unfold Instr.sliceBounds
  repeat' first
    | (with_reducible first | refine Tame.bind (Q := fun _ => True) ?_ (fun _ _ => ?_) | exact t_pure _ | exact t_stuck _ | exact t_unsupported _ | exact t_sliceBound _ _ _ | exact t_program | assumption)
    | intro _
    | dsimp only
    | split
    | exact Tame.halt _ (.inl ⟨_, rfl⟩)

theorem t_slice (t : TypeId) (x : Value) (l h m : Option Value) : T P (Instr.slice t x l h m) := by
  unfold Instr.slice
  repeat' first
    | (with_reducible first | refine Tame.bind (Q := fun _ => True) ?_ (fun _ _ => ?_) | exact t_pure _ | exact t_stuck _ | exact t_unsupported _ | exact t_sliceBounds _ _ _ _ _ _ | exact t_asAddr _ | exact t_sizeOf _ | exact t_underlying _ | exact t_program | assumption)
    | intro _
    | dsimp only
    | split
    | exact Tame.halt _ (.inl ⟨_, rfl⟩)

theorem t_sliceAt (t : TypeId) (x : Value) (l h m : Option Value) : T P (Instr.sliceAt t x l h m) := by
  unfold Instr.sliceAt
  repeat' first
    | (with_reducible first | refine Tame.bind (Q := fun _ => True) ?_ (fun _ _ => ?_) | exact t_pure _ | exact t_stuck _ | exact t_unsupported _ | exact t_slice _ _ _ _ _ | exact t_sliceBounds _ _ _ _ _ _ | exact t_sureAddr _ | exact t_sizeOf _ | exact t_underlying _ | exact t_program | assumption)
    | intro _
    | dsimp only
    | split
    | exact Tame.halt _ (.inl ⟨_, rfl⟩)

theorem t_extract (x : Value) (i : Nat) : T P (Instr.extract x i) := by
  unfold Instr.extract
  repeat' first
    | (with_reducible first | refine Tame.bind (Q := fun _ => True) ?_ (fun _ _ => ?_) | exact t_pure _ | exact t_stuck _ | exact t_unsupported _ | exact t_program | assumption)
    | intro _
    | dsimp only
    | split
    | exact Tame.halt _ (.inl ⟨_, rfl⟩)

theorem t_index (t : TypeId) (x i : Value) : T P (Instr.index t x i) := by
  unfold Instr.index
  repeat' first
    | (with_reducible first | refine Tame.bind (Q := fun _ => True) ?_ (fun _ _ => ?_) | exact t_pure _ | exact t_stuck _ | exact t_unsupported _ | exact t_asIntOf _ | exact t_boundsPanic _ _ _ _ | exact t_part _ _ _ | exact t_sizeOf _ | exact t_underlying _ | exact t_program | assumption)
    | intro _
    | dsimp only
    | split
    | exact Tame.halt _ (.inl ⟨_, rfl⟩)

theorem t_makeSlice (t : TypeId) (x y : Value) : T P (Instr.makeSlice t x y) := by
  unfold Instr.makeSlice
  repeat' first
    | (with_reducible first | refine Tame.bind (Q := fun _ => True) ?_ (fun _ _ => ?_) | exact t_pure _ | exact t_stuck _ | exact t_unsupported _ | exact t_asInt _ | exact t_runtimePanic _ | exact t_newRow _ _ | exact t_sizeOf _ | exact t_zeroValue _ | exact t_underlying _ | exact t_typeInfo _ | exact t_askRoom _ | exact t_program | exact t_choose _ | assumption)
    | intro _
    | dsimp only
    | split
    | exact Tame.halt _ (.inl ⟨_, rfl⟩)

theorem t_holdsCells (a : Addr) (n : Nat) : T P (Builtin.holdsCells a n) := by
  unfold Builtin.holdsCells
  repeat' first
    | (with_reducible first | refine Tame.bind (Q := fun _ => True) ?_ (fun _ _ => ?_) | exact t_pure _ | exact t_stuck _ | exact t_unsupported _ | exact t_program | exact t_shape _ | assumption)
    | intro _
    | dsimp only
    | split
    | exact Tame.halt _ (.inl ⟨_, rfl⟩)

theorem t_mayShare (s l n : Nat) (b : Option Addr) (x : Value) : T P (Builtin.mayShare s l n b x) := by
  unfold Builtin.mayShare
  repeat' first
    | (with_reducible first | refine Tame.bind (Q := fun _ => True) ?_ (fun _ _ => ?_) | exact t_pure _ | exact t_stuck _ | exact t_unsupported _ | exact t_holdsCells _ _ | exact t_program | exact t_frozen _ | assumption)
    | intro _
    | dsimp only
    | split
    | exact Tame.halt _ (.inl ⟨_, rfl⟩)

theorem t_lenOf (x : Value) : T P (Builtin.lenOf x) := by
  unfold Builtin.lenOf
  repeat' first
    | (with_reducible first | refine Tame.bind (Q := fun _ => True) ?_ (fun _ _ => ?_) | exact t_pure _ | exact t_stuck _ | exact t_unsupported _ | exact t_program | assumption)
    | intro _
    | dsimp only
    | split
    | exact Tame.halt _ (.inl ⟨_, rfl⟩)

theorem t_firstCells (s n : Nat) (x : Value) : T P (Builtin.firstCells s n x) := by
  unfold Builtin.firstCells
  repeat' first
    | (with_reducible first | refine Tame.bind (Q := fun _ => True) ?_ (fun _ _ => ?_) | exact t_pure _ | exact t_stuck _ | exact t_unsupported _ | exact t_loadCells _ _ | exact t_program | assumption)
    | intro _
    | dsimp only
    | split
    | exact Tame.halt _ (.inl ⟨_, rfl⟩)

theorem t_append (a : Array TypeId) (t : TypeId) (x : Array Value) : T P (Builtin.append_ a t x) := by
  unfold Builtin.append_
  extract_lets jp0
  have hj0 : ∀ r, T P (jp0 r) := fun r => by unfold jp0; exact t_unsupported _
  clear_value jp0
  split
  rotate_left
  · exact t_stuck _
  refine Tame.bind (Q := fun _ => True) (t_underlying _) (fun _ _ => ?_)
  split
  rotate_left
  · exact t_stuck _
  split
  rotate_left
  · exact t_stuck _
  refine Tame.bind (Q := fun _ => True) (t_sizeOf _) (fun _ _ => ?_)
  extract_lets +onlyGivenNames jp
  refine tame_cut (h := ∀ z, T P (jp z)) ?_ ?_
  rotate_left
  · intro hjp
    clear_value jp
    repeat' first
      | (with_reducible first | refine Tame.bind (Q := fun _ => True) ?_ (fun _ _ => ?_) | exact t_pure _ | exact t_stuck _ | exact t_unsupported _ | exact hjp _ | exact t_firstCells _ _ _ | exact t_lenOf _ | exact t_mayShare _ _ _ _ _ | exact t_asInt _ | exact t_runtimePanic _ | exact t_newRow _ _ | exact t_storeCells _ _ _ | exact t_sizeOf _ | exact t_zeroValue _ | exact t_underlying _ | exact t_typeInfo _ | exact t_askRoom _ | exact t_noRoom | exact t_program | exact t_choose _ | assumption)
      | intro _
      | dsimp only
      | split
      | exact Tame.halt _ (.inl ⟨_, rfl⟩)
  intro zeros
  unfold jp
  clear jp
  extract_lets +onlyGivenNames jp1
  refine tame_cut (h := ∀ z, T P (jp1 z)) ?_ ?_
  rotate_left
  · intro hjp
    clear_value jp1
    repeat' first
      | (with_reducible first | refine Tame.bind (Q := fun _ => True) ?_ (fun _ _ => ?_) | exact t_pure _ | exact t_stuck _ | exact t_unsupported _ | exact hjp _ | exact t_firstCells _ _ _ | exact t_lenOf _ | exact t_mayShare _ _ _ _ _ | exact t_asInt _ | exact t_runtimePanic _ | exact t_newRow _ _ | exact t_storeCells _ _ _ | exact t_sizeOf _ | exact t_zeroValue _ | exact t_underlying _ | exact t_typeInfo _ | exact t_askRoom _ | exact t_noRoom | exact t_program | exact t_choose _ | assumption)
      | intro _
      | dsimp only
      | split
      | exact Tame.halt _ (.inl ⟨_, rfl⟩)
  intro n
  unfold jp1
  clear jp1
  extract_lets +onlyGivenNames appended need
  have happ : T P appended := by
    unfold appended
    repeat' first
      | (with_reducible first | refine Tame.bind (Q := fun _ => True) ?_ (fun _ _ => ?_) | exact t_pure _ | exact t_stuck _ | exact t_unsupported _ | exact t_firstCells _ _ _ | exact t_lenOf _ | exact t_mayShare _ _ _ _ _ | exact t_asInt _ | exact t_runtimePanic _ | exact t_newRow _ _ | exact t_storeCells _ _ _ | exact t_sizeOf _ | exact t_zeroValue _ | exact t_underlying _ | exact t_typeInfo _ | exact t_askRoom _ | exact t_noRoom | exact t_program | exact t_choose _ | assumption)
      | intro _
      | dsimp only
      | split
      | exact Tame.halt _ (.inl ⟨_, rfl⟩)
  clear_value appended need
  repeat' first
    | (with_reducible first | refine Tame.bind (Q := fun _ => True) ?_ (fun _ _ => ?_) | exact t_pure _ | exact t_stuck _ | exact t_unsupported _ | exact hj0 _ | exact t_firstCells _ _ _ | exact t_lenOf _ | exact t_mayShare _ _ _ _ _ | exact t_asInt _ | exact t_runtimePanic _ | exact t_newRow _ _ | exact t_storeCells _ _ _ | exact t_sizeOf _ | exact t_zeroValue _ | exact t_underlying _ | exact t_typeInfo _ | exact t_askRoom _ | exact t_noRoom | exact t_program | exact t_choose _ | assumption)
    | intro _
    | dsimp only
    | split
    | exact Tame.halt _ (.inl ⟨_, rfl⟩)

theorem t_len (a : Array TypeId) (t : TypeId) (x : Array Value) : T P (Builtin.len_ a t x) := by
  unfold Builtin.len_
  repeat' first
    | (with_reducible first | refine Tame.bind (Q := fun _ => True) ?_ (fun _ _ => ?_) | exact t_pure _ | exact t_stuck _ | exact t_unsupported _ | exact t_underlying _ | exact t_program | exact t_getObj _ | assumption)
    | intro _
    | dsimp only
    | split
    | exact Tame.halt _ (.inl ⟨_, rfl⟩)

theorem t_min2 (x y : Value) : T P (Builtin.min2 x y) := by
  unfold Builtin.min2
  repeat' first
    | (with_reducible first | refine Tame.bind (Q := fun _ => True) ?_ (fun _ _ => ?_) | exact t_pure _ | exact t_stuck _ | exact t_unsupported _ | exact t_stringOp _ _ _ | exact t_asBool _ | exact t_program | exact t_choose _ | assumption)
    | intro _
    | dsimp only
    | split
    | exact Tame.halt _ (.inl ⟨_, rfl⟩)

theorem t_min (a : Array TypeId) (t : TypeId) (x : Array Value) : T P (Builtin.min_ a t x) := by
  unfold Builtin.min_
  split
  · exact Tame.halt _ (.inr (.inl ⟨_, rfl⟩))
  · exact tame_foldlM _ _ (fun _ _ => t_min2 _ _) _

theorem t_followBlind (l : List FieldStep) : ∀ (t : TypeId) (x : Option Value), T P (followBlind l t x) := by
  induction l with
  | nil => intro t x; exact Tame.pure _ trivial
  | cons s l ih =>
    intro t x
    unfold followBlind
    repeat' first
      | (with_reducible first | refine Tame.bind (Q := fun _ => True) ?_ (fun _ _ => ?_) | exact t_pure _ | exact t_stuck _ | exact t_unsupported _ | exact ih _ _ | exact t_part _ _ _ | exact t_underlying _ | exact t_program | refine tame_range _ _ (fun _ _ => ?_) _ | refine tame_array _ _ (fun _ _ => ?_) _ | assumption)
      | intro _
      | dsimp only
      | split
      | exact Tame.halt _ (.inl ⟨_, rfl⟩)

theorem t_nilAhead (d : Nat) : ∀ (t : TypeId) (x : Value) (s : String), T P (nilAhead d t x s) := by
  induction d with
  | zero => intro t x s; exact Tame.pure _ trivial
  | succ d ih =>
    intro t x s
    unfold nilAhead
    repeat' first
      | (with_reducible first | refine Tame.bind (Q := fun _ => True) ?_ (fun _ _ => ?_) | exact t_pure _ | exact t_stuck _ | exact t_unsupported _ | exact ih _ _ _ | exact t_followBlind _ _ _ | exact t_underlying _ | exact t_typeInfo _ | exact t_program | refine tame_range _ _ (fun _ _ => ?_) _ | refine tame_array _ _ (fun _ _ => ?_) _ | assumption)
      | intro _
      | dsimp only
      | split
      | exact Tame.halt _ (.inl ⟨_, rfl⟩)
end
end Go.Proofs.Ytmdcpmfanpopgaa
