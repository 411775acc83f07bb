/- Written by wip/tools/gentame.py: the model's operations in use here are plain ones: no word to the outside, no object laid anew. -/
import Derived.Test.YtmdcpmfanpopgaaComA
import Derived.Laws.Sem
namespace Go.Proofs.Ytmdcpmfanpopgaa
open Go Go.Conc
set_option linter.unusedSimpArgs false
set_option linter.unusedVariables false
set_option maxHeartbeats 1000000
section
variable {P : Program}
/-- Plain, whatever it yields. -/
abbrev T {α : Type} (P : Program) (s : Sem α) : Prop := Tame P (fun _ => True) s
theorem t_pure {α : Type} (a : α) : T P (pure a : Sem α) := Tame.pure _ trivial
theorem t_stuck {α : Type} (s : String) : T P (stuck s : Sem α) := Tame.halt _ (.inr (.inl ⟨_, rfl⟩))
theorem t_unsupported {α : Type} (s : Unsupported) : T P (unsupported s : Sem α) := Tame.halt _ (.inr (.inr ⟨_, rfl⟩))
theorem tame_cut {h Q : Prop} (h1 : h) (h2 : h → Q) : Q := h2 h1
theorem tame_jp {α β γ : Type} {Q : γ → Prop} {f : (α → Sem β) → Sem γ} {g : α → Sem β} (h : (∀ a, T P (g a)) → Tame P Q (f g)) (hg : ∀ a, T P (g a)) : Tame P Q (f g) := h hg
theorem map_eq_bind_ {α β : Type} (f : α → β) (s : Sem α) : f <$> s = s >>= fun a => pure (f a) := rfl
theorem t_load (a : Addr) (m : Mode) : T P (load a m) := .load _ _ _ fun _ => .pure _ trivial

theorem t_store (a : Addr) (v : Value) (m : Mode) : T P (store a v m) := .store _ _ _ _ (.pure _ trivial)

theorem t_newObj (o : Obj) : T P (newObj o) := .new _ _ fun _ => .pure _ trivial

theorem t_shape (r : Nat) : T P (shape r) := .shape _ _ fun _ => .pure _ trivial

theorem t_freeze (a : Addr) (n : Nat) : T P (freeze a n) := .freeze _ _ _ (.pure _ trivial)

theorem t_frozen (a : Addr) : T P (frozen a) := .frozen _ _ fun _ => .pure _ trivial

theorem t_getObj (r : Nat) : T P (getObj r) := .getObj _ _ fun _ => .pure _ trivial

theorem t_choose (q : Question) : T P (choose q) := .choose _ _ fun _ => .pure _ trivial

theorem t_program  : T P (program) := .program _ (.pure _ trivial)

theorem t_noRoom  : T P (mark .noRoom) := .room _ (.pure _ trivial)

theorem tame_list {α β : Type} (l : List α) (f : α → β → Sem (ForInStep β)) (h : ∀ a b, T P (f a b)) : ∀ b, T P (forIn l b f) := by
  induction l with
  | nil => intro b; exact Tame.pure _ trivial
  | cons a l ih =>
    intro b
    rw [List.forIn_cons]
    refine Tame.bind (Q := fun _ => True) (h a b) fun s _ => ?_
    cases s with
    | done b => exact Tame.pure _ trivial
    | yield b => exact ih b
theorem tame_array {α β : Type} (l : Array α) (f : α → β → Sem (ForInStep β)) (h : ∀ a b, T P (f a b)) (b : β) : T P (forIn l b f) := by
  rw [← Array.forIn_toList]; exact tame_list _ _ h b
theorem tame_foldlM {α β : Type} (l : List α) (f : β → α → Sem β) (h : ∀ b a, T P (f b a)) : ∀ b, T P (l.foldlM f b) := by
  induction l with
  | nil => intro b; exact Tame.pure _ trivial
  | cons a l ih => intro b; rw [List.foldlM_cons]; exact Tame.bind (Q := fun _ => True) (h b a) fun s _ => ih s
theorem tame_mapM {α β : Type} (f : α → Sem β) (h : ∀ a, T P (f a)) (l : Array α) : T P (l.mapM f) := by
  rw [Array.mapM_eq_foldlM, ← Array.foldlM_toList]
  exact tame_foldlM _ _ (fun bs a => Tame.bind (Q := fun _ => True) (h a) fun s _ => Tame.pure _ trivial) _

theorem t_askRoom (b : Nat) : T P (askRoom b) := by
  unfold askRoom
  repeat' first
    | (with_reducible first | refine Tame.bind (Q := fun _ => True) ?_ (fun _ _ => ?_) | exact t_pure _ | exact t_stuck _ | exact t_unsupported _ | exact t_noRoom | exact t_program | assumption)
    | intro _
    | dsimp only
    | split
    | exact Tame.halt _ (.inl ⟨_, rfl⟩)

theorem t_viewAt (r : Nat) : T P (viewAt r) := by
  unfold viewAt
  repeat' first
    | (with_reducible first | refine Tame.bind (Q := fun _ => True) ?_ (fun _ _ => ?_) | exact t_pure _ | exact t_stuck _ | exact t_unsupported _ | exact t_program | exact t_getObj _ | exact t_shape _ | assumption)
    | intro _
    | dsimp only
    | split
    | exact Tame.halt _ (.inl ⟨_, rfl⟩)

theorem t_numberAt (r : Nat) : T P (numberAt r) := by
  unfold numberAt
  repeat' first
    | (with_reducible first | refine Tame.bind (Q := fun _ => True) ?_ (fun _ _ => ?_) | exact t_pure _ | exact t_stuck _ | exact t_unsupported _ | exact t_program | exact t_getObj _ | exact t_shape _ | assumption)
    | intro _
    | dsimp only
    | split
    | exact Tame.halt _ (.inl ⟨_, rfl⟩)

theorem t_cellsIn (r : Nat) : T P (cellsIn r) := by
  unfold cellsIn
  repeat' first
    | (with_reducible first | refine Tame.bind (Q := fun _ => True) ?_ (fun _ _ => ?_) | exact t_pure _ | exact t_stuck _ | exact t_unsupported _ | exact t_program | exact t_getObj _ | exact t_shape _ | assumption)
    | intro _
    | dsimp only
    | split
    | exact Tame.halt _ (.inl ⟨_, rfl⟩)

theorem t_asNumber (a : Addr) (l : Bool) : T P (asNumber a l) := by
  unfold asNumber
  repeat' first
    | (with_reducible first | refine Tame.bind (Q := fun _ => True) ?_ (fun _ _ => ?_) | exact t_pure _ | exact t_stuck _ | exact t_unsupported _ | exact t_program | exact t_newObj _ | assumption)
    | intro _
    | dsimp only
    | split
    | exact Tame.halt _ (.inl ⟨_, rfl⟩)

theorem t_behindNumber (a : Addr) : T P (behindNumber a) := by
  unfold behindNumber
  repeat' first
    | (with_reducible first | refine Tame.bind (Q := fun _ => True) ?_ (fun _ _ => ?_) | exact t_pure _ | exact t_stuck _ | exact t_unsupported _ | exact t_numberAt _ | exact t_program | assumption)
    | intro _
    | dsimp only
    | split
    | exact Tame.halt _ (.inl ⟨_, rfl⟩)

theorem t_noView (a : Addr) : T P (noView a) := by
  unfold noView
  repeat' first
    | (with_reducible first | refine Tame.bind (Q := fun _ => True) ?_ (fun _ _ => ?_) | exact t_pure _ | exact t_stuck _ | exact t_unsupported _ | exact t_viewAt _ | exact t_program | assumption)
    | intro _
    | dsimp only
    | split
    | exact Tame.halt _ (.inl ⟨_, rfl⟩)

theorem t_markStringish (a : Addr) : T P (markStringish a) := by
  unfold markStringish
  repeat' first
    | (with_reducible first | refine Tame.bind (Q := fun _ => True) ?_ (fun _ _ => ?_) | exact t_pure _ | exact t_stuck _ | exact t_unsupported _ | exact t_program | exact t_freeze _ _ | exact t_shape _ | assumption)
    | intro _
    | dsimp only
    | split
    | exact Tame.halt _ (.inl ⟨_, rfl⟩)

theorem t_stringish (a : Addr) : T P (stringish a) := by
  unfold stringish
  repeat' first
    | (with_reducible first | refine Tame.bind (Q := fun _ => True) ?_ (fun _ _ => ?_) | exact t_pure _ | exact t_stuck _ | exact t_unsupported _ | exact t_program | exact t_frozen _ | exact t_shape _ | assumption)
    | intro _
    | dsimp only
    | split
    | exact Tame.halt _ (.inl ⟨_, rfl⟩)

theorem t_mayBeOne (a b : Addr) : T P (mayBeOne a b) := by
  unfold mayBeOne
  repeat' first
    | (with_reducible first | refine Tame.bind (Q := fun _ => True) ?_ (fun _ _ => ?_) | exact t_pure _ | exact t_stuck _ | exact t_unsupported _ | exact t_stringish _ | exact t_program | exact t_shape _ | assumption)
    | intro _
    | dsimp only
    | split
    | exact Tame.halt _ (.inl ⟨_, rfl⟩)

theorem t_sameAddr (a b : Addr) : T P (sameAddr a b) := by
  unfold sameAddr
  repeat' first
    | (with_reducible first | refine Tame.bind (Q := fun _ => True) ?_ (fun _ _ => ?_) | exact t_pure _ | exact t_stuck _ | exact t_unsupported _ | exact t_mayBeOne _ _ | exact t_noView _ | exact t_program | exact t_choose _ | exact t_frozen _ | assumption)
    | intro _
    | dsimp only
    | split
    | exact Tame.halt _ (.inl ⟨_, rfl⟩)

theorem t_samePointer (a b : Option Addr) : T P (samePointer a b) := by
  unfold samePointer
  repeat' first
    | (with_reducible first | refine Tame.bind (Q := fun _ => True) ?_ (fun _ _ => ?_) | exact t_pure _ | exact t_stuck _ | exact t_unsupported _ | exact t_sameAddr _ _ | exact t_program | assumption)
    | intro _
    | dsimp only
    | split
    | exact Tame.halt _ (.inl ⟨_, rfl⟩)

theorem t_typeInfo (t : TypeId) : T P (typeInfo t) := by
  unfold typeInfo
  repeat' first
    | (with_reducible first | refine Tame.bind (Q := fun _ => True) ?_ (fun _ _ => ?_) | exact t_pure _ | exact t_stuck _ | exact t_unsupported _ | exact t_program | assumption)
    | intro _
    | dsimp only
    | split
    | exact Tame.halt _ (.inl ⟨_, rfl⟩)

theorem t_underlying (t : TypeId) : T P (underlying t) := by
  unfold underlying
  repeat' first
    | (with_reducible first | refine Tame.bind (Q := fun _ => True) ?_ (fun _ _ => ?_) | exact t_pure _ | exact t_stuck _ | exact t_unsupported _ | exact t_program | assumption)
    | intro _
    | dsimp only
    | split
    | exact Tame.halt _ (.inl ⟨_, rfl⟩)

theorem t_typeStr (t : TypeId) : T P (typeStr t) := by
  unfold typeStr
  repeat' first
    | (with_reducible first | refine Tame.bind (Q := fun _ => True) ?_ (fun _ _ => ?_) | exact t_pure _ | exact t_stuck _ | exact t_unsupported _ | exact t_typeInfo _ | exact t_program | assumption)
    | intro _
    | dsimp only
    | split
    | exact Tame.halt _ (.inl ⟨_, rfl⟩)

theorem t_zeroValue (t : TypeId) : T P (zeroValue t) := by
  unfold zeroValue
  repeat' first
    | (with_reducible first | refine Tame.bind (Q := fun _ => True) ?_ (fun _ _ => ?_) | exact t_pure _ | exact t_stuck _ | exact t_unsupported _ | exact t_typeInfo _ | exact t_program | assumption)
    | intro _
    | dsimp only
    | split
    | exact Tame.halt _ (.inl ⟨_, rfl⟩)

theorem t_sizeOf (t : TypeId) : T P (Go.sizeOf t) := by
  unfold Go.sizeOf
  repeat' first
    | (with_reducible first | refine Tame.bind (Q := fun _ => True) ?_ (fun _ _ => ?_) | exact t_pure _ | exact t_stuck _ | exact t_unsupported _ | exact t_typeInfo _ | exact t_program | assumption)
    | intro _
    | dsimp only
    | split
    | exact Tame.halt _ (.inl ⟨_, rfl⟩)

theorem t_isAgg (t : TypeId) : T P (isAgg t) := by
  unfold isAgg
  repeat' first
    | (with_reducible first | refine Tame.bind (Q := fun _ => True) ?_ (fun _ _ => ?_) | exact t_pure _ | exact t_stuck _ | exact t_unsupported _ | exact t_underlying _ | exact t_program | assumption)
    | intro _
    | dsimp only
    | split
    | exact Tame.halt _ (.inl ⟨_, rfl⟩)

theorem t_loadCellsFrom (a : Addr) (n : Nat) : ∀ (i : Nat) (acc : Array Value), T P (loadCellsFrom a i n acc) := by
  induction n with
  | zero => intro i acc; exact Tame.pure _ trivial
  | succ n ih => intro i acc; unfold loadCellsFrom; exact Tame.bind (Q := fun _ => True) (t_load _ _) fun s _ => ih _ _
theorem t_storeCells (a : Addr) (vs : List Value) : ∀ (i : Nat), T P (storeCells a vs i) := by
  induction vs with
  | nil => intro i; exact Tame.pure _ trivial
  | cons v vs ih => intro i; unfold storeCells; exact Tame.bind (Q := fun _ => True) (t_store _ _ _) fun s _ => ih _
theorem t_loadBytes (n : Nat) : ∀ (a : Addr) (acc : ByteArray), T P (loadBytes a acc n) := by
  induction n with
  | zero => intro a acc; exact Tame.pure _ trivial
  | succ n ih =>
    intro a acc; unfold loadBytes
    refine Tame.bind (Q := fun _ => True) (t_load _ _) fun s _ => ?_
    split
    · exact ih _ _
    · exact Tame.halt _ (.inr (.inl ⟨_, rfl⟩))

theorem t_loadCells (a : Addr) (n : Nat) : T P (loadCells a n) := by
  unfold loadCells
  repeat' first
    | (with_reducible first | refine Tame.bind (Q := fun _ => True) ?_ (fun _ _ => ?_) | exact t_pure _ | exact t_stuck _ | exact t_unsupported _ | exact t_loadCellsFrom _ _ _ _ | exact t_program | assumption)
    | intro _
    | dsimp only
    | split
    | exact Tame.halt _ (.inl ⟨_, rfl⟩)

theorem t_loadVar (t : TypeId) (a : Addr) : T P (loadVar t a) := by
  unfold loadVar
  repeat' first
    | (with_reducible first | refine Tame.bind (Q := fun _ => True) ?_ (fun _ _ => ?_) | exact t_pure _ | exact t_stuck _ | exact t_unsupported _ | exact t_loadCells _ _ | exact t_isAgg _ | exact t_sizeOf _ | exact t_program | exact t_load _ _ | assumption)
    | intro _
    | dsimp only
    | split
    | exact Tame.halt _ (.inl ⟨_, rfl⟩)

theorem t_storeVar (t : TypeId) (a : Addr) (v : Value) : T P (storeVar t a v) := by
  unfold storeVar
  repeat' first
    | (with_reducible first | refine Tame.bind (Q := fun _ => True) ?_ (fun _ _ => ?_) | exact t_pure _ | exact t_stuck _ | exact t_unsupported _ | exact t_storeCells _ _ _ | exact t_sizeOf _ | exact t_program | assumption)
    | intro _
    | dsimp only
    | split
    | exact Tame.halt _ (.inl ⟨_, rfl⟩)

theorem t_newRow (t : TypeId) (c : Array Value) : T P (newRow t c) := by
  unfold newRow
  repeat' first
    | (with_reducible first | refine Tame.bind (Q := fun _ => True) ?_ (fun _ _ => ?_) | exact t_pure _ | exact t_stuck _ | exact t_unsupported _ | exact t_program | exact t_newObj _ | assumption)
    | intro _
    | dsimp only
    | split
    | exact Tame.halt _ (.inl ⟨_, rfl⟩)

theorem t_newVar (t : TypeId) (v : Value) : T P (newVar t v) := by
  unfold newVar
  repeat' first
    | (with_reducible first | refine Tame.bind (Q := fun _ => True) ?_ (fun _ _ => ?_) | exact t_pure _ | exact t_stuck _ | exact t_unsupported _ | exact t_newRow _ _ | exact t_program | assumption)
    | intro _
    | dsimp only
    | split
    | exact Tame.halt _ (.inl ⟨_, rfl⟩)

theorem t_elemOf (t : TypeId) : T P (elemOf t) := by
  unfold elemOf
  repeat' first
    | (with_reducible first | refine Tame.bind (Q := fun _ => True) ?_ (fun _ _ => ?_) | exact t_pure _ | exact t_stuck _ | exact t_unsupported _ | exact t_underlying _ | exact t_program | assumption)
    | intro _
    | dsimp only
    | split
    | exact Tame.halt _ (.inl ⟨_, rfl⟩)

theorem t_part (t : TypeId) (cs : Array Value) (o : Nat) : T P (part t cs o) := by
  unfold part
  repeat' first
    | (with_reducible first | refine Tame.bind (Q := fun _ => True) ?_ (fun _ _ => ?_) | exact t_pure _ | exact t_stuck _ | exact t_unsupported _ | exact t_isAgg _ | exact t_sizeOf _ | exact t_program | assumption)
    | intro _
    | dsimp only
    | split
    | exact Tame.halt _ (.inl ⟨_, rfl⟩)

theorem t_goPanic {α : Type} (v : Value) : T P ((goPanic v : Sem α)) := by
  unfold goPanic
  repeat' first
    | (with_reducible first | refine Tame.bind (Q := fun _ => True) ?_ (fun _ _ => ?_) | exact t_pure _ | exact t_stuck _ | exact t_unsupported _ | exact t_program | assumption)
    | intro _
    | dsimp only
    | split
    | exact Tame.halt _ (.inl ⟨_, rfl⟩)

theorem t_runtimePanic {α : Type} (e : RuntimeError) : T P ((runtimePanic e : Sem α)) := by
  unfold runtimePanic
  repeat' first
    | (with_reducible first | refine Tame.bind (Q := fun _ => True) ?_ (fun _ _ => ?_) | exact t_pure _ | exact t_stuck _ | exact t_unsupported _ | exact t_goPanic _ | exact t_elemOf _ | exact t_newVar _ _ | exact t_program | assumption)
    | intro _
    | dsimp only
    | split
    | exact Tame.halt _ (.inl ⟨_, rfl⟩)

theorem t_boundsPanic {α : Type} (k : IntKind) (x y : Int) (c : BoundsCode) : T P ((boundsPanic k x y c : Sem α)) := by
  unfold boundsPanic
  simp only [map_eq_bind_]
  repeat' first
    | (with_reducible first | refine Tame.bind (Q := fun _ => True) ?_ (fun _ _ => ?_) | exact t_pure _ | exact t_stuck _ | exact t_unsupported _ | exact t_runtimePanic _ | exact t_program | exact t_choose _ | assumption)
    | intro _
    | dsimp only
    | split
    | exact Tame.halt _ (.inl ⟨_, rfl⟩)

theorem t_asIntOf (v : Value) : T P (asIntOf v) := by
  unfold asIntOf
  repeat' first
    | (with_reducible first | refine Tame.bind (Q := fun _ => True) ?_ (fun _ _ => ?_) | exact t_pure _ | exact t_stuck _ | exact t_unsupported _ | exact t_program | assumption)
    | intro _
    | dsimp only
    | split
    | exact Tame.halt _ (.inl ⟨_, rfl⟩)

theorem t_asInt (v : Value) : T P (asInt v) := by
  unfold asInt
  repeat' first
    | (with_reducible first | refine Tame.bind (Q := fun _ => True) ?_ (fun _ _ => ?_) | exact t_pure _ | exact t_stuck _ | exact t_unsupported _ | exact t_asIntOf _ | exact t_program | assumption)
    | intro _
    | dsimp only
    | split
    | exact Tame.halt _ (.inl ⟨_, rfl⟩)

theorem t_asBool (v : Value) : T P (asBool v) := by
  unfold asBool
  repeat' first
    | (with_reducible first | refine Tame.bind (Q := fun _ => True) ?_ (fun _ _ => ?_) | exact t_pure _ | exact t_stuck _ | exact t_unsupported _ | exact t_program | assumption)
    | intro _
    | dsimp only
    | split
    | exact Tame.halt _ (.inl ⟨_, rfl⟩)

theorem t_asString (v : Value) : T P (asString v) := by
  unfold asString
  repeat' first
    | (with_reducible first | refine Tame.bind (Q := fun _ => True) ?_ (fun _ _ => ?_) | exact t_pure _ | exact t_stuck _ | exact t_unsupported _ | exact t_program | assumption)
    | intro _
    | dsimp only
    | split
    | exact Tame.halt _ (.inl ⟨_, rfl⟩)

theorem t_asAgg (v : Value) : T P (asAgg v) := by
  unfold asAgg
  repeat' first
    | (with_reducible first | refine Tame.bind (Q := fun _ => True) ?_ (fun _ _ => ?_) | exact t_pure _ | exact t_stuck _ | exact t_unsupported _ | exact t_program | assumption)
    | intro _
    | dsimp only
    | split
    | exact Tame.halt _ (.inl ⟨_, rfl⟩)

theorem t_asAddr (v : Value) : T P (asAddr v) := by
  unfold asAddr
  repeat' first
    | (with_reducible first | refine Tame.bind (Q := fun _ => True) ?_ (fun _ _ => ?_) | exact t_pure _ | exact t_stuck _ | exact t_unsupported _ | exact t_runtimePanic _ | exact t_program | assumption)
    | intro _
    | dsimp only
    | split
    | exact Tame.halt _ (.inl ⟨_, rfl⟩)

theorem t_byteOf (a : Addr) : T P (byteOf a) := by
  unfold byteOf
  repeat' first
    | (with_reducible first | refine Tame.bind (Q := fun _ => True) ?_ (fun _ _ => ?_) | exact t_pure _ | exact t_stuck _ | exact t_unsupported _ | exact t_noView _ | exact t_program | exact t_shape _ | assumption)
    | intro _
    | dsimp only
    | split
    | exact Tame.halt _ (.inl ⟨_, rfl⟩)

theorem t_partAt (a : Addr) (x y : Nat) : T P (partAt a x y) := by
  unfold partAt
  repeat' first
    | (with_reducible first | refine Tame.bind (Q := fun _ => True) ?_ (fun _ _ => ?_) | exact t_pure _ | exact t_stuck _ | exact t_unsupported _ | exact t_byteOf _ | exact t_program | assumption)
    | intro _
    | dsimp only
    | split
    | exact Tame.halt _ (.inl ⟨_, rfl⟩)

theorem t_fieldPlace (a : Addr) (f : Field) : T P (fieldPlace a f) := by
  unfold fieldPlace
  repeat' first
    | (with_reducible first | refine Tame.bind (Q := fun _ => True) ?_ (fun _ _ => ?_) | exact t_pure _ | exact t_stuck _ | exact t_unsupported _ | exact t_partAt _ _ _ | exact t_sizeOf _ | exact t_program | assumption)
    | intro _
    | dsimp only
    | split
    | exact Tame.halt _ (.inl ⟨_, rfl⟩)

theorem t_variablesAt (a : Addr) (u : TypeId) (n : Nat) : T P (variablesAt a u n) := by
  unfold variablesAt
  repeat' first
    | (with_reducible first | refine Tame.bind (Q := fun _ => True) ?_ (fun _ _ => ?_) | exact t_pure _ | exact t_stuck _ | exact t_unsupported _ | exact t_program | exact t_shape _ | assumption)
    | intro _
    | dsimp only
    | split
    | exact Tame.halt _ (.inl ⟨_, rfl⟩)

theorem t_intArith (op : BinOp) (k : IntKind) (x y : Int) : T P (Op.intArith op k x y) := by
  unfold Op.intArith
  repeat' first
    | (with_reducible first | refine Tame.bind (Q := fun _ => True) ?_ (fun _ _ => ?_) | exact t_pure _ | exact t_stuck _ | exact t_unsupported _ | exact t_program | assumption)
    | intro _
    | dsimp only
    | split
    | exact Tame.halt _ (.inl ⟨_, rfl⟩)

theorem t_intBits (op : BinOp) (k : IntKind) (x y : Int) : T P (Op.intBits op k x y) := by
  unfold Op.intBits
  repeat' first
    | (with_reducible first | refine Tame.bind (Q := fun _ => True) ?_ (fun _ _ => ?_) | exact t_pure _ | exact t_stuck _ | exact t_unsupported _ | exact t_program | assumption)
    | intro _
    | dsimp only
    | split
    | exact Tame.halt _ (.inl ⟨_, rfl⟩)

theorem t_intCmp (op : BinOp) (x y : Int) : T P (Op.intCmp op x y) := by
  unfold Op.intCmp
  repeat' first
    | (with_reducible first | refine Tame.bind (Q := fun _ => True) ?_ (fun _ _ => ?_) | exact t_pure _ | exact t_stuck _ | exact t_unsupported _ | exact t_program | assumption)
    | intro _
    | dsimp only
    | split
    | exact Tame.halt _ (.inl ⟨_, rfl⟩)

theorem t_intDiv (op : BinOp) (k : IntKind) (x y : Int) : T P (Op.intDiv op k x y) := by
  unfold Op.intDiv
  repeat' first
    | (with_reducible first | refine Tame.bind (Q := fun _ => True) ?_ (fun _ _ => ?_) | exact t_pure _ | exact t_stuck _ | exact t_unsupported _ | exact t_runtimePanic _ | exact t_program | assumption)
    | intro _
    | dsimp only
    | split
    | exact Tame.halt _ (.inl ⟨_, rfl⟩)

theorem t_shift (op : BinOp) (k : IntKind) (x : Int) (k' : IntKind) (y : Int) : T P (Op.shift op k x k' y) := by
  unfold Op.shift
  repeat' first
    | (with_reducible first | refine Tame.bind (Q := fun _ => True) ?_ (fun _ _ => ?_) | exact t_pure _ | exact t_stuck _ | exact t_unsupported _ | exact t_runtimePanic _ | exact t_program | assumption)
    | intro _
    | dsimp only
    | split
    | exact Tame.halt _ (.inl ⟨_, rfl⟩)

theorem t_stringOp (op : BinOp) (x y : ByteArray) : T P (Op.stringOp op x y) := by
  unfold Op.stringOp
  repeat' first
    | (with_reducible first | refine Tame.bind (Q := fun _ => True) ?_ (fun _ _ => ?_) | exact t_pure _ | exact t_stuck _ | exact t_unsupported _ | exact t_program | assumption)
    | intro _
    | dsimp only
    | split
    | exact Tame.halt _ (.inl ⟨_, rfl⟩)

theorem t_floatArith (op : BinOp) (k : FloatKind) (x y : Nat) : T P (Op.floatArith op k x y) := by
  unfold Op.floatArith
  repeat' first
    | (with_reducible first | refine Tame.bind (Q := fun _ => True) ?_ (fun _ _ => ?_) | exact t_pure _ | exact t_stuck _ | exact t_unsupported _ | exact t_program | exact t_choose _ | assumption)
    | intro _
    | dsimp only
    | split
    | exact Tame.halt _ (.inl ⟨_, rfl⟩)

theorem t_floatCmp (op : BinOp) (k : FloatKind) (x y : Nat) : T P (Op.floatCmp op k x y) := by
  unfold Op.floatCmp
  repeat' first
    | (with_reducible first | refine Tame.bind (Q := fun _ => True) ?_ (fun _ _ => ?_) | exact t_pure _ | exact t_stuck _ | exact t_unsupported _ | exact t_program | assumption)
    | intro _
    | dsimp only
    | split
    | exact Tame.halt _ (.inl ⟨_, rfl⟩)

theorem t_floatToFloat (s : FloatKind) (b : Nat) (d : FloatKind) : T P (Conv.floatToFloat s b d) := by
  unfold Conv.floatToFloat
  repeat' first
    | (with_reducible first | refine Tame.bind (Q := fun _ => True) ?_ (fun _ _ => ?_) | exact t_pure _ | exact t_stuck _ | exact t_unsupported _ | exact t_program | exact t_choose _ | assumption)
    | intro _
    | dsimp only
    | split
    | exact Tame.halt _ (.inl ⟨_, rfl⟩)

theorem t_carith (op : BinOp) (k : FloatKind) (x y : Nat) : T P (Op.Complex.arith op k x y) := by
  unfold Op.Complex.arith
  repeat' first
    | (with_reducible first | refine Tame.bind (Q := fun _ => True) ?_ (fun _ _ => ?_) | exact t_pure _ | exact t_stuck _ | exact t_unsupported _ | exact t_floatArith _ _ _ _ | exact t_program | assumption)
    | intro _
    | dsimp only
    | split
    | exact Tame.halt _ (.inl ⟨_, rfl⟩)

theorem t_ccmp (op : BinOp) (k : FloatKind) (x y : Nat) : T P (Op.Complex.cmp op k x y) := by
  unfold Op.Complex.cmp
  repeat' first
    | (with_reducible first | refine Tame.bind (Q := fun _ => True) ?_ (fun _ _ => ?_) | exact t_pure _ | exact t_stuck _ | exact t_unsupported _ | exact t_floatCmp _ _ _ _ | exact t_asBool _ | exact t_program | assumption)
    | intro _
    | dsimp only
    | split
    | exact Tame.halt _ (.inl ⟨_, rfl⟩)

theorem t_cconv (s : FloatKind) (b : Nat) (d : FloatKind) : T P (Op.Complex.conv s b d) := by
  unfold Op.Complex.conv
  repeat' first
    | (with_reducible first | refine Tame.bind (Q := fun _ => True) ?_ (fun _ _ => ?_) | exact t_pure _ | exact t_stuck _ | exact t_unsupported _ | exact t_floatToFloat _ _ _ | exact t_program | assumption)
    | intro _
    | dsimp only
    | split
    | exact Tame.halt _ (.inl ⟨_, rfl⟩)

theorem t_cadd (x y : Nat) : T P (Op.Complex.add x y) := by
  unfold Op.Complex.add
  repeat' first
    | (with_reducible first | refine Tame.bind (Q := fun _ => True) ?_ (fun _ _ => ?_) | exact t_pure _ | exact t_stuck _ | exact t_unsupported _ | exact t_carith _ _ _ _ | exact t_program | assumption)
    | intro _
    | dsimp only
    | split
    | exact Tame.halt _ (.inl ⟨_, rfl⟩)

theorem t_csub (x y : Nat) : T P (Op.Complex.sub x y) := by
  unfold Op.Complex.sub
  repeat' first
    | (with_reducible first | refine Tame.bind (Q := fun _ => True) ?_ (fun _ _ => ?_) | exact t_pure _ | exact t_stuck _ | exact t_unsupported _ | exact t_carith _ _ _ _ | exact t_program | assumption)
    | intro _
    | dsimp only
    | split
    | exact Tame.halt _ (.inl ⟨_, rfl⟩)

theorem t_cmul (x y : Nat) : T P (Op.Complex.mul x y) := by
  unfold Op.Complex.mul
  repeat' first
    | (with_reducible first | refine Tame.bind (Q := fun _ => True) ?_ (fun _ _ => ?_) | exact t_pure _ | exact t_stuck _ | exact t_unsupported _ | exact t_carith _ _ _ _ | exact t_program | assumption)
    | intro _
    | dsimp only
    | split
    | exact Tame.halt _ (.inl ⟨_, rfl⟩)

theorem t_cquo (x y : Nat) : T P (Op.Complex.quo x y) := by
  unfold Op.Complex.quo
  repeat' first
    | (with_reducible first | refine Tame.bind (Q := fun _ => True) ?_ (fun _ _ => ?_) | exact t_pure _ | exact t_stuck _ | exact t_unsupported _ | exact t_carith _ _ _ _ | exact t_program | assumption)
    | intro _
    | dsimp only
    | split
    | exact Tame.halt _ (.inl ⟨_, rfl⟩)

theorem t_product (a b c d : Nat) : T P (Op.Complex.product a b c d) := by
  unfold Op.Complex.product
  repeat' first
    | (with_reducible first | refine Tame.bind (Q := fun _ => True) ?_ (fun _ _ => ?_) | exact t_pure _ | exact t_stuck _ | exact t_unsupported _ | exact t_cmul _ _ | exact t_csub _ _ | exact t_cadd _ _ | exact t_program | assumption)
    | intro _
    | dsimp only
    | split
    | exact Tame.halt _ (.inl ⟨_, rfl⟩)

theorem t_corrected (s a b c d : Nat) : T P (Op.Complex.corrected s a b c d) := by
  unfold Op.Complex.corrected
  repeat' first
    | (with_reducible first | refine Tame.bind (Q := fun _ => True) ?_ (fun _ _ => ?_) | exact t_pure _ | exact t_stuck _ | exact t_unsupported _ | exact t_cmul _ _ | exact t_csub _ _ | exact t_cadd _ _ | exact t_program | assumption)
    | intro _
    | dsimp only
    | split
    | exact Tame.halt _ (.inl ⟨_, rfl⟩)

theorem t_quotient (a b c d : Nat) : T P (Op.Complex.quotient a b c d) := by
  unfold Op.Complex.quotient
  repeat' first
    | (with_reducible first | refine Tame.bind (Q := fun _ => True) ?_ (fun _ _ => ?_) | exact t_pure _ | exact t_stuck _ | exact t_unsupported _ | exact t_corrected _ _ _ _ _ | exact t_cquo _ _ | exact t_cmul _ _ | exact t_csub _ _ | exact t_cadd _ _ | exact t_ccmp _ _ _ _ | exact t_program | assumption)
    | intro _
    | dsimp only
    | split
    | exact Tame.halt _ (.inl ⟨_, rfl⟩)

theorem t_complexOp (op : BinOp) (k : FloatKind) (a b c d : Nat) : T P (Op.complexOp op k a b c d) := by
  unfold Op.complexOp
  repeat' first
    | (with_reducible first | refine Tame.bind (Q := fun _ => True) ?_ (fun _ _ => ?_) | exact t_pure _ | exact t_stuck _ | exact t_unsupported _ | exact t_quotient _ _ _ _ | exact t_product _ _ _ _ | exact t_cconv _ _ _ | exact t_ccmp _ _ _ _ | exact t_carith _ _ _ _ | exact t_program | assumption)
    | intro _
    | dsimp only
    | split
    | exact Tame.halt _ (.inl ⟨_, rfl⟩)

theorem t_unary (op : UnOp) (x : Value) : T P (Op.unary op x) := by
  unfold Op.unary
  repeat' first
    | (with_reducible first | refine Tame.bind (Q := fun _ => True) ?_ (fun _ _ => ?_) | exact t_pure _ | exact t_stuck _ | exact t_unsupported _ | exact t_intBits _ _ _ _ | exact t_intArith _ _ _ _ | exact t_program | assumption)
    | intro _
    | dsimp only
    | split
    | exact Tame.halt _ (.inl ⟨_, rfl⟩)

theorem t_twoPlaces (a b : Addr) : T P (Op.twoPlaces a b) := by
  unfold Op.twoPlaces
  repeat' first
    | (with_reducible first | refine Tame.bind (Q := fun _ => True) ?_ (fun _ _ => ?_) | exact t_pure _ | exact t_stuck _ | exact t_unsupported _ | exact t_byteOf _ | exact t_program | assumption)
    | intro _
    | dsimp only
    | split
    | exact Tame.halt _ (.inl ⟨_, rfl⟩)

theorem t_addrSub (k : IntKind) (a b : Addr) : T P (Op.addrSub k a b) := by
  unfold Op.addrSub
  repeat' first
    | (with_reducible first | refine Tame.bind (Q := fun _ => True) ?_ (fun _ _ => ?_) | exact t_pure _ | exact t_stuck _ | exact t_unsupported _ | exact t_twoPlaces _ _ | exact t_program | assumption)
    | intro _
    | dsimp only
    | split
    | exact Tame.halt _ (.inl ⟨_, rfl⟩)

theorem t_addrCmp (op : BinOp) (a b : Addr) : T P (Op.addrCmp op a b) := by
  unfold Op.addrCmp
  repeat' first
    | (with_reducible first | refine Tame.bind (Q := fun _ => True) ?_ (fun _ _ => ?_) | exact t_pure _ | exact t_stuck _ | exact t_unsupported _ | exact t_twoPlaces _ _ | exact t_program | assumption)
    | intro _
    | dsimp only
    | split
    | exact Tame.halt _ (.inl ⟨_, rfl⟩)

theorem t_addrMod (k : IntKind) (a : Addr) (n : Int) : T P (Op.addrMod k a n) := by
  unfold Op.addrMod
  repeat' first
    | (with_reducible first | refine Tame.bind (Q := fun _ => True) ?_ (fun _ _ => ?_) | exact t_pure _ | exact t_stuck _ | exact t_unsupported _ | exact t_byteOf _ | exact t_typeInfo _ | exact t_program | exact t_shape _ | assumption)
    | intro _
    | dsimp only
    | split
    | exact Tame.halt _ (.inl ⟨_, rfl⟩)

theorem tame_range {β : Type} (r : Std.Legacy.Range) (f : Nat → β → Sem (ForInStep β)) (h : ∀ a b, T P (f a b)) (b : β) : T P (forIn r b f) := by
  rw [Std.Legacy.Range.forIn_eq_forIn_range']; exact tame_list _ _ h b

theorem t_equalIn (d : Nat) : ∀ (t : TypeId) (x y : Value), T P (Op.equalIn d t x y) := by
  induction d with
  | zero => intro t x y; exact Tame.halt _ (.inr (.inr ⟨_, rfl⟩))
  | succ d ih =>
    intro t x y
    unfold Op.equalIn
    repeat' first
      | (with_reducible first | refine Tame.bind (Q := fun _ => True) ?_ (fun _ _ => ?_) | exact t_pure _ | exact t_stuck _ | exact t_unsupported _ | exact ih _ _ _ | exact t_byteOf _ | exact t_runtimePanic _ | exact t_part _ _ _ | exact t_sizeOf _ | exact t_typeStr _ | exact t_underlying _ | exact t_typeInfo _ | exact t_samePointer _ _ | exact t_sameAddr _ _ | exact t_behindNumber _ | exact t_program | exact t_choose _ | refine tame_range _ _ (fun _ _ => ?_) _ | refine tame_array _ _ (fun _ _ => ?_) _ | assumption)
      | intro _
      | dsimp only
      | split
      | exact Tame.halt _ (.inl ⟨_, rfl⟩)

theorem t_equal (t : TypeId) (x y : Value) : T P (Op.equal t x y) := by
  unfold Op.equal
  repeat' first
    | (with_reducible first | refine Tame.bind (Q := fun _ => True) ?_ (fun _ _ => ?_) | exact t_pure _ | exact t_stuck _ | exact t_unsupported _ | exact t_equalIn _ _ _ _ | exact t_program | assumption)
    | intro _
    | dsimp only
    | split
    | exact Tame.halt _ (.inl ⟨_, rfl⟩)

theorem t_eqGuardIn (d : Nat) : ∀ (t : TypeId) (x y : Value), T P (Op.eqGuardIn d t x y) := by
  induction d with
  | zero => intro t x y; exact Tame.halt _ (.inr (.inr ⟨_, rfl⟩))
  | succ d ih =>
    intro t x y
    unfold Op.eqGuardIn
    repeat' first
      | (with_reducible first | refine Tame.bind (Q := fun _ => True) ?_ (fun _ _ => ?_) | exact t_pure _ | exact t_stuck _ | exact t_unsupported _ | exact ih _ _ _ | exact t_part _ _ _ | exact t_sizeOf _ | exact t_underlying _ | exact t_program | refine tame_range _ _ (fun _ _ => ?_) _ | refine tame_array _ _ (fun _ _ => ?_) _ | assumption)
      | intro _
      | dsimp only
      | split
      | exact Tame.halt _ (.inl ⟨_, rfl⟩)

theorem m4_tame (x : Array Value) (f : Option Addr → Value → Sem Value) (g : Array Value → Sem Value) (hf : ∀ p y, T P (f p y)) (hg : ∀ x, T P (g x)) : T P (Builtin.unsafeAdd_.match_4 (fun _ => Sem Value) x f g) := by
  obtain ⟨l⟩ := x
  rcases l with _ | ⟨v, _ | ⟨u, _ | ⟨y, l⟩⟩⟩
  · exact hg _
  · exact hg _
  · cases v <;> first | exact hf _ _ | exact hg _
  · exact hg _

theorem t_unsafeAdd (a : Array TypeId) (t : TypeId) (x : Array Value) : T P (Builtin.unsafeAdd_ a t x) := by
  unfold Builtin.unsafeAdd_
  refine m4_tame _ _ _ (fun _ _ => ?_) (fun _ => t_stuck _)
  repeat' first
    | (with_reducible first | refine Tame.bind (Q := fun _ => True) ?_ (fun _ _ => ?_) | exact t_pure _ | exact t_stuck _ | exact t_unsupported _ | exact t_asInt _ | exact t_viewAt _ | exact t_program | exact t_shape _ | assumption)
    | intro _
    | dsimp only
    | split
    | exact Tame.halt _ (.inl ⟨_, rfl⟩)

theorem t_movedNumber (t : TypeId) (x y : Value) : T P (movedNumber t x y) := by
  unfold movedNumber
  repeat' first
    | (with_reducible first | refine Tame.bind (Q := fun _ => True) ?_ (fun _ _ => ?_) | exact t_pure _ | exact t_stuck _ | exact t_unsupported _ | exact t_unsafeAdd _ _ _ | exact t_underlying _ | exact t_behindNumber _ | exact t_asNumber _ _ | exact t_program | assumption)
    | intro _
    | dsimp only
    | split
    | exact Tame.halt _ (.inl ⟨_, rfl⟩)

theorem t_movedPointer (t : TypeId) (x y : Value) : T P (movedPointer t x y) := by
  unfold movedPointer
  repeat' first
    | (with_reducible first | refine Tame.bind (Q := fun _ => True) ?_ (fun _ _ => ?_) | exact t_pure _ | exact t_stuck _ | exact t_unsupported _ | exact t_unsafeAdd _ _ _ | exact t_numberAt _ | exact t_program | assumption)
    | intro _
    | dsimp only
    | split
    | exact Tame.halt _ (.inl ⟨_, rfl⟩)

theorem t_eqGuard (op : BinOp) (t : TypeId) (x y : Operand) (a b : Value) : T P (eqGuard op t x y a b) := by
  unfold eqGuard
  repeat' first
    | (with_reducible first | refine Tame.bind (Q := fun _ => True) ?_ (fun _ _ => ?_) | exact t_pure _ | exact t_stuck _ | exact t_unsupported _ | exact t_eqGuardIn _ _ _ _ | exact t_program | assumption)
    | intro _
    | dsimp only
    | split
    | exact Tame.halt _ (.inl ⟨_, rfl⟩)

theorem t_binOp (op : BinOp) (t : TypeId) (x y : Value) : T P (binOp op t x y) := by
  unfold binOp
  repeat' first
    | (with_reducible first | refine Tame.bind (Q := fun _ => True) ?_ (fun _ _ => ?_) | exact t_pure _ | exact t_stuck _ | exact t_unsupported _ | exact t_movedPointer _ _ _ | exact t_movedNumber _ _ _ | exact t_equal _ _ _ | exact t_addrMod _ _ _ | exact t_addrCmp _ _ _ | exact t_addrSub _ _ _ | exact t_complexOp _ _ _ _ _ _ | exact t_floatCmp _ _ _ _ | exact t_floatArith _ _ _ _ | exact t_stringOp _ _ _ | exact t_shift _ _ _ _ _ | exact t_intDiv _ _ _ _ | exact t_intCmp _ _ _ | exact t_intBits _ _ _ _ | exact t_intArith _ _ _ _ | exact t_underlying _ | exact t_behindNumber _ | exact t_program | assumption)
    | intro _
    | dsimp only
    | split
    | exact Tame.halt _ (.inl ⟨_, rfl⟩)

theorem t_intToInt (k : IntKind) (n : Int) : T P (Conv.intToInt k n) := by
  unfold Conv.intToInt
  repeat' first
    | (with_reducible first | refine Tame.bind (Q := fun _ => True) ?_ (fun _ _ => ?_) | exact t_pure _ | exact t_stuck _ | exact t_unsupported _ | exact t_program | assumption)
    | intro _
    | dsimp only
    | split
    | exact Tame.halt _ (.inl ⟨_, rfl⟩)

theorem t_intToFloat (k : FloatKind) (n : Int) : T P (Conv.intToFloat k n) := by
  unfold Conv.intToFloat
  repeat' first
    | (with_reducible first | refine Tame.bind (Q := fun _ => True) ?_ (fun _ _ => ?_) | exact t_pure _ | exact t_stuck _ | exact t_unsupported _ | exact t_program | assumption)
    | intro _
    | dsimp only
    | split
    | exact Tame.halt _ (.inl ⟨_, rfl⟩)

end
end Go.Proofs.Ytmdcpmfanpopgaa
