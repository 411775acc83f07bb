/- Worlds that part in tape and count of draws alone: what a plain operation does is the same in both. -/
import Derived.Conc.Token
import Derived.Conc.Neutral
namespace Go.Proofs.Ytmdcpmfanpopgaa
open Go Go.Conc

/-- The world with another tape, at another count of draws. -/
def tap (w : World) (τ : Tape) (d : Nat) : World := { w with tape := τ, drawn := d }

/-- The halts that a plain operation may come to. -/
def HaltOk (h : Halt) : Prop := (∃ v, h = .panic v) ∨ (∃ s, h = .stuck s) ∨ ∃ u, h = .unsupported u

/-- An operation's tree is PLAIN: no word to the outside, no mark but one that says nothing, no object laid anew; what it yields meets Q. -/
inductive Tame {α : Type} (P : Program) (Q : α → Prop) : Sem α → Prop where
  | pure (a : α) (h : Q a) : Tame P Q (.pure a)
  | load (m : Mode) (a : Addr) (k : Value → Sem α) (h : ∀ v, Tame P Q (k v)) : Tame P Q (.load m a k)
  | store (m : Mode) (a : Addr) (v : Value) (k : Sem α) (h : Tame P Q k) : Tame P Q (.store m a v k)
  | new (o : Obj) (k : Nat → Sem α) (h : ∀ n, Tame P Q (k n)) : Tame P Q (.new o k)
  | shape (r : Nat) (k : Option (TypeId × Nat) → Sem α) (h : ∀ s, Tame P Q (k s)) : Tame P Q (.shape r k)
  | freeze (a : Addr) (n : Nat) (k : Sem α) (h : Tame P Q k) : Tame P Q (.freeze a n k)
  | frozen (a : Addr) (k : Bool → Sem α) (h : ∀ b, Tame P Q (k b)) : Tame P Q (.frozen a k)
  | getObj (r : Nat) (k : Obj → Sem α) (h : ∀ o, Tame P Q (k o)) : Tame P Q (.getObj r k)
  | choose (q : Question) (k : Nat → Sem α) (h : ∀ n, Tame P Q (k n)) : Tame P Q (.choose q k)
  | program (k : Program → Sem α) (h : Tame P Q (k P)) : Tame P Q (.program k)
  | room (k : Sem α) (h : Tame P Q k) : Tame P Q (.mark .noRoom k)
  | halt (h : Halt) (ok : HaltOk h) : Tame P Q (.halt h)

theorem Tame.bind {P : Program} {α β : Type} {Q : α → Prop} {R : β → Prop} {s : Sem α} {f : α → Sem β} (h : Tame P Q s) (hf : ∀ a, Q a → Tame P R (f a)) : Tame P R (s >>= f) := by
  show Tame P R (Sem.bind s f)
  induction h with
  | pure a h => exact hf a h
  | load m a k _ ih => exact .load m a _ ih
  | store m a v k _ ih => exact .store m a v _ ih
  | new o k _ ih => exact .new o _ ih
  | shape r k _ ih => exact .shape r _ ih
  | freeze a n k _ ih => exact .freeze a n _ ih
  | frozen a k _ ih => exact .frozen a _ ih
  | getObj r k _ ih => exact .getObj r _ ih
  | choose q k _ ih => exact .choose q _ ih
  | program k _ ih => exact .program _ ih
  | room k _ ih => exact .room _ ih
  | halt h ok => exact .halt h ok

def rworld {α : Type} : Result α → World
  | .ok _ w => w
  | .halt _ w => w
def rtap {α : Type} (τ : Tape) (d : Nat) : Result α → Result α
  | .ok a w => .ok a (tap w τ d)
  | .halt h w => .halt h (tap w τ d)

/-- What an operation's doing leaves: the tape and what lies outside stand; no channel is turned; the heap only grows. -/
structure Mild (w w' : World) : Prop where
  tape : w'.tape = w.tape
  os : w'.os = w.os
  output : w'.output = w.output
  size : w.heap.size ≤ w'.heap.size
  chan : ∀ (c cap : Nat) (buf : Array Value) (cl : Bool) (s r : Nat) (tm : Bool), w.heap[c]? = some (Obj.chan cap buf cl s r tm) → w'.heap[c]? = some (Obj.chan cap buf cl s r tm)

theorem Mild.refl (w : World) : Mild w w := ⟨rfl, rfl, rfl, Nat.le_refl _, fun _ _ _ _ _ _ _ h => h⟩
theorem Mild.trans {a b c : World} (h : Mild a b) (h' : Mild b c) : Mild a c :=
  ⟨h'.tape.trans h.tape, h'.os.trans h.os, h'.output.trans h.output, Nat.le_trans h.size h'.size, fun _ _ _ _ _ _ _ e => h'.chan _ _ _ _ _ _ _ (h.chan _ _ _ _ _ _ _ e)⟩

theorem mild_setCell (w : World) (a : Addr) (v : Value) : Mild w (w.setCell a v) := by
  refine ⟨rfl, rfl, rfl, by simp [World.setCell], fun c cap buf cl s r tm h => ?_⟩
  simp only [World.setCell, Array.getElem?_modify]
  split
  · skip
    rw [h]
    rfl
  · exact h
theorem mild_freeze (w : World) (a : Addr) (n : Nat) : Mild w (w.freeze a n) := by
  unfold World.freeze
  split
  · exact Mild.refl w
  · refine ⟨rfl, rfl, rfl, by simp, fun c cap buf cl s r tm h => ?_⟩
    simp only [Array.getElem?_modify]
    split
    · skip
      rw [h]
      rfl
    · exact h
theorem mild_push (w : World) (o : Obj) : Mild w { w with heap := w.heap.push o } := by
  refine ⟨rfl, rfl, rfl, by simp, fun c cap buf cl s r tm h => ?_⟩
  have := (Array.getElem?_eq_some_iff.1 h).1
  show (w.heap.push o)[c]? = _
  rw [Array.getElem?_push_lt this, ← Array.getElem?_eq_getElem this]
  exact h

theorem farLoad_tap (p : Program) (w : World) (τ : Tape) (d : Nat) (a : Addr) (at_ : Bool) : (tap w τ d).farLoad p a at_ = w.farLoad p a at_ := rfl
theorem seen_tap (p : Program) (w : World) (τ : Tape) (d : Nat) (at_ : Addr) (u : TypeId) (k : Addr) (b : Bool) : (tap w τ d).seen p at_ u k b = w.seen p at_ u k b := rfl
theorem viewStore_tap (p : Program) (w : World) (τ : Tape) (d : Nat) (at_ : Addr) (u : TypeId) (k : Addr) (v : Value) (b : Bool) :
    (tap w τ d).viewStore p at_ u k v b = (w.viewStore p at_ u k v b).map fun x => (tap x.1 τ d, x.2) := by
  unfold World.viewStore
  rw [seen_tap]
  simp only [bind, Except.bind, pure, Except.pure, Except.map]
  generalize w.seen p at_ u k b = S
  cases S with
  | error e =>
    by_cases ht : (!tight p p.depth u) = true
    · simp only [ht, if_true]; rfl
    · simp only [ht, if_false, Bool.false_eq_true]
  | ok x =>
    by_cases ht : (!tight p p.depth u) = true
    · simp only [ht, if_true]; rfl
    · simp only [ht, if_false, Bool.false_eq_true]
      cases v.bytes? with
      | none => rfl
      | some bytes =>
        dsimp only
        split
        · rfl
        · generalize List.foldlM (m := Except String) _ _ _ = L
          cases L <;> rfl

theorem seen_cells {p : Program} {w : World} {at_ : Addr} {u : TypeId} {k : Addr} {b : Bool} {x : Array Value × TypeId × (Nat × Nat) × Nat × Value × List (Nat × Nat × List UInt8)}
    (h : w.seen p at_ u k b = .ok x) : ∃ c e f, w.heap[at_.block]? = some (.cells c e f) := by
  unfold World.seen at h
  simp only [bind, Except.bind, pure, Except.pure] at h
  repeat' split at h
  all_goals first | exact ⟨_, _, _, by assumption⟩ | (exfalso; cases h; done)

theorem mild_viewStore {p : Program} {w w' : World} {at_ : Addr} {u : TypeId} {k : Addr} {v : Value} {b : Bool} {l : List Addr} (h : w.viewStore p at_ u k v b = .ok (w', l)) : Mild w w' ∧ w'.drawn = w.drawn := by
  unfold World.viewStore at h
  simp only [bind, Except.bind, pure, Except.pure] at h
  cases hs : w.seen p at_ u k b with
  | error e => rw [hs] at h; repeat' split at h <;> first | (cases h; done) | skip
  | ok x =>
    obtain ⟨c, e, f, hc⟩ := seen_cells hs
    rw [hs] at h
    repeat' split at h
    all_goals first | (cases h; done) | skip
    all_goals
      cases h
      refine ⟨⟨rfl, rfl, rfl, by simp, fun r cap buf cl s r' tm hr => ?_⟩, rfl⟩
      show (w.heap.setIfInBounds at_.block _)[r]? = _
      rw [Array.getElem?_setIfInBounds]
      split
      · rename_i e0
        rw [← e0, hc] at hr; cases hr
      · exact hr

/-- An entry of a plain operation's list: a cell, or a look at an object, of a block that is there. -/
def EvIn (n : Nat) (e : Event) : Prop := (∃ a wr s, e = ⟨.cell a, wr, s⟩ ∧ a.block < n) ∨ (∃ r s, e = ⟨.obj r, false, s⟩ ∧ r < n) ∨ e = ⟨.mark .noRoom, false, true⟩
theorem EvIn.mono {n n' : Nat} {e : Event} (h : EvIn n e) (hn : n ≤ n') : EvIn n' e := by
  rcases h with ⟨a, wr, s, rfl, h⟩ | ⟨r, s, rfl, h⟩ | h
  · exact .inl ⟨a, wr, s, rfl, Nat.lt_of_lt_of_le h hn⟩
  · exact .inr (.inl ⟨r, s, rfl, Nat.lt_of_lt_of_le h hn⟩)
  · exact .inr (.inr h)

/-- The tape τ from d on answers as the world's own for the next m draws. -/
def Alike (w : World) (τ : Tape) (d m : Nat) : Prop := ∀ j, j < m → ∀ q, τ (d + j) q = w.tape (w.drawn + j) q

/-- WHAT A PLAIN OPERATION DOES. -/
structure RunsTo {α : Type} (p : Program) (Q : α → Prop) (s : Sem α) (w : World) (es : Array Event) (r : Result α) (es' : Array Event) (m : Nat) : Prop where
  run : s.runT p w es = (r, es ++ es')
  other : ∀ τ d, Alike w τ d m → s.runT p (tap w τ d) es = (rtap τ (d + m) r, es ++ es')
  mild : Mild w (rworld r)
  drawn : (rworld r).drawn = w.drawn + m
  evs : ∀ e ∈ es', EvIn (rworld r).heap.size e
  post : ∀ a w', r = .ok a w' → Q a
  halts : ∀ h w', r = .halt h w' → HaltOk h

theorem block_of_cell {w : World} {a : Addr} {v : Value} (h : w.cell? a = some v) : a.block < w.heap.size := by
  unfold World.cell? at h
  split at h
  · rename_i e; exact (Array.getElem?_eq_some_iff.1 e).1
  · cases h
end Go.Proofs.Ytmdcpmfanpopgaa
/- A plain operation's run: what it does to the world, and that it does the same in a world with another tape that answers alike. -/
namespace Go.Proofs.Ytmdcpmfanpopgaa
open Go Go.Conc
set_option linter.unusedSimpArgs false
set_option linter.unusedVariables false

theorem seen_at {p : Program} {w : World} {at_ : Addr} {u : TypeId} {k : Addr} {b : Bool} {x : Array Value × TypeId × (Nat × Nat) × Nat × Value × List (Nat × Nat × List UInt8)}
    (h : w.seen p at_ u k b = .ok x) : at_.block < w.heap.size := by
  obtain ⟨c, e, f, hc⟩ := seen_cells h
  exact (Array.getElem?_eq_some_iff.1 hc).1

theorem viewLoad_in {p : Program} {w : World} {at_ : Addr} {u : TypeId} {k : Addr} {b : Bool} {v : Value} {l : List Addr} (h : w.viewLoad p at_ u k b = .ok (v, l)) : ∀ a ∈ l, a.block < w.heap.size := by
  unfold World.viewLoad at h
  simp only [bind, Except.bind, pure, Except.pure] at h
  cases hs : w.seen p at_ u k b with
  | error e => rw [hs] at h; cases h
  | ok x =>
    have hb := seen_at hs
    rw [hs] at h
    dsimp only at h
    split at h
    · cases h
      intro a ha
      obtain ⟨y, _, rfl⟩ := List.mem_map.1 ha
      exact hb
    · cases h

theorem viewStore_in {p : Program} {w w' : World} {at_ : Addr} {u : TypeId} {k : Addr} {v : Value} {b : Bool} {l : List Addr} (h : w.viewStore p at_ u k v b = .ok (w', l)) : ∀ a ∈ l, a.block < w.heap.size := by
  unfold World.viewStore at h
  simp only [bind, Except.bind, pure, Except.pure] at h
  cases hs : w.seen p at_ u k b with
  | error e => rw [hs] at h; repeat' split at h <;> first | (cases h; done) | skip
  | ok x =>
    have hb := seen_at hs
    rw [hs] at h
    repeat' split at h
    all_goals first | (cases h; done) | skip
    all_goals
      cases h
      intro a ha
      obtain ⟨y, _, rfl⟩ := List.mem_map.1 ha
      exact hb

theorem Alike.shift {w : World} {τ : Tape} {d m : Nat} (h : Alike w τ d (1 + m)) : (∀ q, τ d q = w.tape w.drawn q) ∧ Alike { w with drawn := w.drawn + 1 } τ (d + 1) m :=
  ⟨fun q => by simpa using h 0 (by omega) q, fun j hj q => by have := h (1 + j) (by omega) q; simpa [Nat.add_assoc] using this⟩

theorem tap_self (w : World) : tap w w.tape w.drawn = w := rfl

theorem evIn_toArray {n : Nat} {l : List Addr} (h : ∀ a ∈ l, a.block < n) (wr s : Bool) : ∀ e ∈ l.toArray.map (⟨.cell ·, wr, s⟩ : Addr → Event), EvIn n e := by
  intro e he
  obtain ⟨a, ha, rfl⟩ := Array.mem_map.1 he
  exact .inl ⟨a, wr, s, rfl, h a (by simpa using ha)⟩

theorem RunsTo.pre {α : Type} {p : Program} {Q : α → Prop} {s k : Sem α} {w w₁ : World} {es u es' : Array Event} {r : Result α} {m : Nat}
    (h : RunsTo p Q k w₁ (es ++ u) r es' m) (hs : s.runT p w es = k.runT p w₁ (es ++ u)) (ho : ∀ τ d, s.runT p (tap w τ d) es = k.runT p (tap w₁ τ d) (es ++ u)) (hm : Mild w w₁) (hd : w₁.drawn = w.drawn)
    (hu : ∀ e ∈ u, EvIn w.heap.size e) : RunsTo p Q s w es r (u ++ es') m := by
  refine ⟨by rw [hs, h.run, Array.append_assoc], fun τ d ha => ?_, hm.trans h.mild, by rw [h.drawn, hd], fun e he => ?_, h.post, h.halts⟩
  · rw [ho, h.other τ d (fun j hj q => by rw [hm.tape, hd]; exact ha j hj q), Array.append_assoc]
  · rcases Array.mem_append.1 he with he | he
    · exact (hu e he).mono (hm.trans h.mild).size
    · exact h.evs e he

/-- ████ -/
theorem noCell_ok (w : World) (a : Addr) (s : String) : HaltOk (w.noCell a s) := by
  unfold World.noCell
  split <;> first | exact .inr (.inr ⟨_, rfl⟩) | exact .inr (.inl ⟨_, rfl⟩)
theorem farLoad_ok {p : Program} {w : World} {a : Addr} {b : Bool} {h : Halt} (e : w.farLoad p a b = .error h) : HaltOk h := by
  unfold World.farLoad at e
  split at e
  · split at e
    · cases e
    · cases e; exact .inr (.inr ⟨_, rfl⟩)
  · cases e; exact noCell_ok w a _
theorem farStore_ok {p : Program} {w : World} {a : Addr} {v : Value} {b : Bool} {h : Halt} (e : w.farStore p a v b = .error h) : HaltOk h := by
  unfold World.farStore at e
  split at e
  · split at e
    · cases e
    · cases e; exact .inr (.inr ⟨_, rfl⟩)
  · cases e; exact noCell_ok w a _

theorem Tame.runs {α : Type} {p : Program} {Q : α → Prop} {s : Sem α} (h : Tame p Q s) : ∀ (w : World) (es : Array Event), ∃ r es' m, RunsTo p Q s w es r es' m := by
  induction h with
  | pure a h => exact fun w es => ⟨.ok a w, #[], 0, by simp [-Sem.runT_eq, Sem.runT], fun τ d _ => by simp [-Sem.runT_eq, Sem.runT, rtap], Mild.refl w, rfl, by simp, fun a' w' e => (by cases e; exact h), fun _ _ e => (by cases e)⟩
  | load m a k _ ih =>
    intro w es
    cases hc : w.cell? a with
    | some v =>
      obtain ⟨r, es', n, R⟩ := ih v w (es.push ⟨.cell a, false, m == .atomic⟩)
      rw [← Array.append_singleton] at R
      exact ⟨r, _, n, R.pre (by simp only [Sem.runT, hc, Array.append_singleton]) (fun τ d => by simp only [Sem.runT, show (tap w τ d).cell? a = some v from hc, Array.append_singleton]) (Mild.refl w) rfl (fun e he => by simp at he; subst he; exact .inl ⟨a, _, _, rfl, block_of_cell hc⟩)⟩
    | none =>
      cases hf : w.farLoad p a (m == .atomic) with
      | ok x =>
        obtain ⟨v, l⟩ := x
        obtain ⟨r, es', n, R⟩ := ih v w (es ++ l.toArray.map (⟨.cell ·, false, m == .atomic⟩))
        have hl : ∀ x ∈ l, x.block < w.heap.size := by
          unfold World.farLoad at hf
          split at hf
          · split at hf
            · rename_i hv; cases hf; exact viewLoad_in hv
            · cases hf
          · cases hf
        exact ⟨r, _, n, R.pre (by simp only [Sem.runT, hc, hf]) (fun τ d => by simp only [Sem.runT, show (tap w τ d).cell? a = none from hc, farLoad_tap, hf]) (Mild.refl w) rfl (evIn_toArray hl _ _)⟩
      | error e =>
        exact ⟨.halt e w, #[], 0, by simp [-Sem.runT_eq, Sem.runT, hc, hf], fun τ d _ => by simp [-Sem.runT_eq, Sem.runT, show (tap w τ d).cell? a = none from hc, farLoad_tap, hf, rtap], Mild.refl w, rfl, by simp, fun a' w' e => (by cases e), fun _ _ e => by cases e; exact farLoad_ok hf⟩
  | store m a v k _ ih =>
    intro w es
    by_cases hagg : (∃ c, v = .agg c) ∨ ∃ c, v = .tuple c
    · rcases hagg with ⟨c, rfl⟩ | ⟨c, rfl⟩ <;>
      exact ⟨.halt (.stuck "store: not the value of one cell") w, #[], 0, by simp [-Sem.runT_eq, Sem.runT], fun τ d _ => by simp [-Sem.runT_eq, Sem.runT, rtap], Mild.refl w, rfl, by simp, fun a' w' e => (by cases e), fun _ _ e => by cases e; exact .inr (.inl ⟨_, rfl⟩)⟩
    · have hst : ∀ (w : World) (es : Array Event), (Sem.store m a v k).runT p w es = match w.cell? a with
          | some _ =>
            if w.frozen? a then (.halt (.unsupported (.unsafePointer "a write to bytes that a string shares")) w, es)
            else k.runT p (w.setCell a v) (es.push ⟨.cell a, true, m == .atomic⟩)
          | none => match w.farStore p a v (m == .atomic) with
            | .ok (w, touched) => k.runT p w (es ++ touched.toArray.map (⟨.cell ·, true, m == .atomic⟩))
            | .error h => (.halt h w, es) := by
        intro w es
        cases v <;> first | rfl | (exfalso; exact hagg (.inl ⟨_, rfl⟩)) | (exfalso; exact hagg (.inr ⟨_, rfl⟩))
      cases hc : w.cell? a with
      | some v₀ =>
        by_cases hz : w.frozen? a = true
        · exact ⟨.halt (.unsupported (.unsafePointer "a write to bytes that a string shares")) w, #[], 0, by rw [hst, hc]; simp [hz], fun τ d _ => by rw [hst, show (tap w τ d).cell? a = some v₀ from hc, show (tap w τ d).frozen? a = true from hz]; simp [rtap], Mild.refl w, rfl, by simp, fun a' w' e => (by cases e), fun _ _ e => by cases e; exact .inr (.inr ⟨_, rfl⟩)⟩
        · have hz' : w.frozen? a = false := by simpa using hz
          obtain ⟨r, es', n, R⟩ := ih (w.setCell a v) (es.push ⟨.cell a, true, m == .atomic⟩)
          rw [← Array.append_singleton] at R
          refine ⟨r, _, n, R.pre (by rw [hst, hc]; simp only [hz', Bool.false_eq_true, if_false, Array.append_singleton]) (fun τ d => by rw [hst, show (tap w τ d).cell? a = some v₀ from hc, show (tap w τ d).frozen? a = false from hz']; simp only [Bool.false_eq_true, if_false, Array.append_singleton]; rfl) (mild_setCell w a v) rfl (fun e he => by simp at he; subst he; exact .inl ⟨a, _, _, rfl, block_of_cell hc⟩)⟩
      | none =>
        have hfar : ∀ τ d, (tap w τ d).farStore p a v (m == .atomic) = (w.farStore p a v (m == .atomic)).map fun x => (tap x.1 τ d, x.2) := by
          intro τ d
          unfold World.farStore
          rw [show (tap w τ d).heap[a.block]? = w.heap[a.block]? from rfl]
          split
          · rw [viewStore_tap]
            rename_i at_ u _
            cases w.viewStore p at_ u a v (m == .atomic) <;> rfl
          · rfl
        cases hf : w.farStore p a v (m == .atomic) with
        | ok x =>
          obtain ⟨w₁, l⟩ := x
          have hv : ∃ at_ u, w.viewStore p at_ u a v (m == .atomic) = .ok (w₁, l) := by
            unfold World.farStore at hf
            split at hf
            · split at hf
              · rename_i hv; cases hf; exact ⟨_, _, hv⟩
              · cases hf
            · cases hf
          obtain ⟨at_, u, hv⟩ := hv
          obtain ⟨hm, hd⟩ := mild_viewStore hv
          obtain ⟨r, es', n, R⟩ := ih w₁ (es ++ l.toArray.map (⟨.cell ·, true, m == .atomic⟩))
          exact ⟨r, _, n, R.pre (by rw [hst, hc]; simp only [hf]) (fun τ d => by rw [hst, show (tap w τ d).cell? a = none from hc]; simp only [hfar, hf, Except.map]) hm hd (evIn_toArray (viewStore_in hv) _ _)⟩
        | error e =>
          exact ⟨.halt e w, #[], 0, by rw [hst, hc]; simp [hf], fun τ d _ => by rw [hst, show (tap w τ d).cell? a = none from hc]; simp [hfar, hf, Except.map, rtap], Mild.refl w, rfl, by simp, fun a' w' e => (by cases e), fun _ _ e => by cases e; exact farStore_ok hf⟩
  | new o k _ ih =>
    intro w es
    obtain ⟨r, es', n, R⟩ := ih w.heap.size { w with heap := w.heap.push o } es
    have R' : RunsTo p Q (k w.heap.size) { w with heap := w.heap.push o } (es ++ #[]) r es' n := by simpa using R
    exact ⟨r, _, n, R'.pre (by simp [-Sem.runT_eq, Sem.runT]) (fun τ d => by simp [-Sem.runT_eq, Sem.runT, tap]) (mild_push w o) rfl (by simp)⟩
  | shape r₀ k _ ih =>
    intro w es
    obtain ⟨r, es', n, R⟩ := ih (w.shape? r₀) w es
    have R' : RunsTo p Q (k (w.shape? r₀)) w (es ++ #[]) r es' n := by simpa using R
    exact ⟨r, _, n, R'.pre (by simp [-Sem.runT_eq, Sem.runT]) (fun τ d => by simp [-Sem.runT_eq, Sem.runT, show (tap w τ d).shape? r₀ = w.shape? r₀ from rfl]) (Mild.refl w) rfl (by simp)⟩
  | freeze a n₀ k _ ih =>
    intro w es
    obtain ⟨r, es', n, R⟩ := ih (w.freeze a n₀) es
    have R' : RunsTo p Q k (w.freeze a n₀) (es ++ #[]) r es' n := by simpa using R
    have ht : ∀ τ d, (tap w τ d).freeze a n₀ = tap (w.freeze a n₀) τ d := fun τ d => by
      unfold World.freeze
      split <;> rfl
    have hd : (w.freeze a n₀).drawn = w.drawn := by unfold World.freeze; split <;> rfl
    exact ⟨r, _, n, R'.pre (by simp [-Sem.runT_eq, Sem.runT]) (fun τ d => by simp [-Sem.runT_eq, Sem.runT, ht]) (mild_freeze w a n₀) hd (by simp)⟩
  | frozen a k _ ih =>
    intro w es
    obtain ⟨r, es', n, R⟩ := ih (w.frozen? a) w es
    have R' : RunsTo p Q (k (w.frozen? a)) w (es ++ #[]) r es' n := by simpa using R
    exact ⟨r, _, n, R'.pre (by simp [-Sem.runT_eq, Sem.runT]) (fun τ d => by simp [-Sem.runT_eq, Sem.runT, show (tap w τ d).frozen? a = w.frozen? a from rfl]) (Mild.refl w) rfl (by simp)⟩
  | getObj r₀ k _ ih =>
    intro w es
    cases ho : w.heap[r₀]? with
    | none => exact ⟨.halt (.stuck "getObj: no such block") w, #[], 0, by simp [-Sem.runT_eq, Sem.runT, ho], fun τ d _ => by simp [-Sem.runT_eq, Sem.runT, show (tap w τ d).heap[r₀]? = none from ho, rtap], Mild.refl w, rfl, by simp, fun a' w' e => (by cases e), fun _ _ e => by cases e; exact .inr (.inl ⟨_, rfl⟩)⟩
    | some o =>
      have hlt := (Array.getElem?_eq_some_iff.1 ho).1
      by_cases hcell : ∃ c e f, o = .cells c e f
      · obtain ⟨c, e, f, rfl⟩ := hcell
        exact ⟨.halt (.stuck "getObj: a row of cells") w, #[], 0, by simp [-Sem.runT_eq, Sem.runT, ho], fun τ d _ => by simp [-Sem.runT_eq, Sem.runT, show (tap w τ d).heap[r₀]? = _ from ho, rtap], Mild.refl w, rfl, by simp, fun a' w' e => (by cases e), fun _ _ e => by cases e; exact .inr (.inl ⟨_, rfl⟩)⟩
      · obtain ⟨r, es', n, R⟩ := ih o w (es.push ⟨.obj r₀, false, o.isChan⟩)
        rw [← Array.append_singleton] at R
        have hg : ∀ (w : World) (es : Array Event), w.heap[r₀]? = some o → (Sem.getObj r₀ k).runT p w es = (k o).runT p w (es.push ⟨.obj r₀, false, o.isChan⟩) := by
          intro w es ho
          simp only [Sem.runT, ho]
          cases o <;> first | rfl | (exfalso; exact hcell ⟨_, _, _, rfl⟩)
        exact ⟨r, _, n, R.pre (by rw [hg w es ho, Array.append_singleton]) (fun τ d => by rw [hg (tap w τ d) es ho, Array.append_singleton]) (Mild.refl w) rfl (fun e he => by simp at he; subst he; exact .inr (.inl ⟨r₀, _, rfl, hlt⟩))⟩
  | choose q k _ ih =>
    intro w es
    by_cases hf : q.forced = true
    · obtain ⟨r, es', n, R⟩ := ih 0 w es
      have R' : RunsTo p Q (k 0) w (es ++ #[]) r es' n := by simpa using R
      exact ⟨r, _, n, R'.pre (by simp [-Sem.runT_eq, Sem.runT, hf]) (fun τ d => by simp [-Sem.runT_eq, Sem.runT, hf]) (Mild.refl w) rfl (by simp)⟩
    · obtain ⟨r, es', n, R⟩ := ih (q.cut (w.tape w.drawn q)) { w with drawn := w.drawn + 1 } es
      refine ⟨r, es', 1 + n, by simp only [Sem.runT, hf]; exact R.run, fun τ d ha => ?_, ⟨R.mild.tape, R.mild.os, R.mild.output, R.mild.size, R.mild.chan⟩, by rw [R.drawn, Nat.add_assoc], R.evs, R.post, R.halts⟩
      obtain ⟨h0, h1⟩ := ha.shift
      have := R.other τ (d + 1) h1
      simp only [Sem.runT, hf]
      rw [show (tap w τ d).tape (tap w τ d).drawn q = τ d q from rfl, h0 q, show d + (1 + n) = d + 1 + n by omega]
      exact this
  | program k _ ih =>
    intro w es
    obtain ⟨r, es', n, R⟩ := ih w es
    have R' : RunsTo p Q (k p) w (es ++ #[]) r es' n := by simpa using R
    exact ⟨r, _, n, R'.pre (by simp [-Sem.runT_eq, Sem.runT]) (fun τ d => by simp [-Sem.runT_eq, Sem.runT]) (Mild.refl w) rfl (by simp)⟩
  | room k _ ih =>
    intro w es
    obtain ⟨r, es', n, R⟩ := ih w (es.push ⟨.mark .noRoom, false, true⟩)
    rw [← Array.append_singleton] at R
    exact ⟨r, _, n, R.pre (by simp [-Sem.runT_eq, Sem.runT]) (fun τ d => by simp [-Sem.runT_eq, Sem.runT]) (Mild.refl w) rfl (fun e he => by simp at he; subst he; exact .inr (.inr rfl))⟩
  | halt h ok => exact fun w es => ⟨.halt h w, #[], 0, by simp [-Sem.runT_eq, Sem.runT], fun τ d _ => by simp [-Sem.runT_eq, Sem.runT, rtap], Mild.refl w, rfl, by simp, fun a' w' e => (by cases e), fun _ _ e => by cases e; exact ok⟩

end Go.Proofs.Ytmdcpmfanpopgaa
