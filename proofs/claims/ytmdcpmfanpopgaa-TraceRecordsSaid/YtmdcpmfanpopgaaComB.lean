/- A goroutine within functions all of whose operations are plain: what one step of its is, whoever stands below it, and on whatever tape that answers alike. -/
import Derived.Test.YtmdcpmfanpopgaaTameOps
import Derived.Conc.Listed
import Derived.Conc.Starve
import Derived.Conc.Token
import Derived.Conc.TokenWalk
import Derived.Conc.TokenWords
import Derived.Conc.CompanyWords
import Derived.Below
namespace Go.Proofs.Ytmdcpmfanpopgaa
open Go Go.Conc
set_option linter.unusedSimpArgs false
set_option linter.unusedVariables false

/-- Which functions are entered; which of them as values; which temporaries hold nothing but such values. -/
structure Plan where
  good : List FuncId
  byVal : List FuncId
  pins : List (FuncId × List Tmp)
def Plan.pin (pl : Plan) (f : FuncId) (t : Tmp) : Bool := pl.pins.any fun x => x.1 == f && x.2.contains t
def Plan.pinOperand (pl : Plan) (f : FuncId) : Operand → Bool
  | .tmp t => pl.pin f t
  | .func g => pl.byVal.contains g
  | _ => false
/-- The operands handed to a function's pinned parameters are such values. -/
def Plan.argsOk (pl : Plan) (f g : FuncId) (args : Array Operand) : Bool :=
  (List.range args.size).all fun i => !pl.pin g i || (match args[i]? with | some x => pl.pinOperand f x | none => true)
def plainBuiltin : Builtin → Bool
  | .append | .len | .min => true
  | _ => false
def Plan.opOk (pl : Plan) (f : FuncId) (o : Oper) : Bool :=
  (match o.dst with
   | some d => !pl.pin f d || (match o.op with | .move x | .assign x => pl.pinOperand f x | _ => false)
   | none => true) &&
  match o.op with
  | .move _ | .assign _ | .pick .. | .alloc _ | .box .. | .build .. | .buildSlice .. | .load .. | .store .. | .nilCheck _ | .binOp .. | .unOp .. | .convert .. | .makeSlice .. | .slice .. | .fieldAddr .. | .indexAddr .. | .index .. | .extract .. => true
  | .call { callee := .builtin b, .. } => plainBuiltin b
  | .call { callee := .value (.func g), args, .. } => pl.good.contains g && pl.argsOk f g args
  | .call { callee := .value (.tmp t), .. } => pl.pin f t
  | _ => false
def Plan.codeOk (pl : Plan) (f : FuncId) : Code → Bool
  | .skip | .exit _ | .ret => true
  | .region _ ops _ => ops.toList.all (pl.opOk f)
  | .seq a b | .cond _ a b => pl.codeOk f a && pl.codeOk f b
  | .block _ c | .loop c => pl.codeOk f c
  | _ => false
def Plan.itemOk (pl : Plan) (f : FuncId) : Item → Bool
  | .code c | .inLoop c => pl.codeOk f c
  | .inBlock _ => true
  | .inRegion ops _ => ops.toList.all (pl.opOk f)
  | _ => false

/-- A function value that may be called. -/
def Plan.Vok (pl : Plan) (v : Value) : Prop := v = undef ∨ ∃ g ∈ pl.byVal, v = .func (.func g) #[] #[]
def Plan.resOk : ResultVar → Bool
  | .tmp _ => true
  | .cell _ _ => true
structure Plan.Fits (pl : Plan) (P : Program) : Prop where
  body : ∀ f ∈ pl.good, ∃ fn c, P.funcs[f]? = some fn ∧ fn.body = some c ∧ (fn.name == "runtime.NumGoroutine") = false ∧ pl.codeOk f c = true
  vals : ∀ f ∈ pl.byVal, f ∈ pl.good ∧ ∀ t, pl.pin f t = false
  early : P.follows .staticDataAhead = true ∧ ∀ g, P.stepOf g = none

structure Plan.FrOk (pl : Plan) (fr : Frame) : Prop where
  good : fr.fn ∈ pl.good
  defers : fr.defers = []
  round : fr.roundOf = none
  kind : fr.kind = .normal
  pins : ∀ t, pl.pin fr.fn t = true → pl.Vok (fr.tmps.getD t undef)
  todo : ∀ it ∈ fr.todo, pl.itemOk fr.fn it = true
structure Plan.Waits (pl : Plan) (c : Frame) : Prop where
  ok : pl.FrOk c
  fin : ∀ v, pl.FrOk (c.finish v)

/-- What a plain operation may yield here. -/
def Plan.Yields (pl : Plan) (P : Program) : Next → Prop
  | .value _ | .skip => True
  | .enter f args => pl.FrOk (Frame.enter P f args .normal)
  | _ => False

section
variable {pl : Plan} {P : Program}

theorem tame_mono {α : Type} {Q R : α → Prop} (h : ∀ a, Q a → R a) {s : Sem α} (ht : Tame P Q s) : Tame P R s := by
  have := Tame.bind ht (fun a ha => (.pure a (h a ha) : Tame P R (Sem.pure a)))
  have e : (s >>= fun a => (Sem.pure a : Sem α)) = s := by
    have := bind_pure s
    exact this
  rw [e] at this
  exact this
theorem tame_value {s : Sem Value} (h : T P s) : Tame P (pl.Yields P) (do pure (.value (← s))) := Tame.bind h fun v _ => .pure _ trivial
theorem tame_unit {s : Sem Unit} (h : T P s) : Tame P (pl.Yields P) (do s; pure .skip) := Tame.bind h fun v _ => .pure _ trivial

theorem q_goPanic {α : Type} {Q : α → Prop} (v : Value) : Tame P Q (goPanic v : Sem α) := Tame.halt _ (.inl ⟨_, rfl⟩)
theorem q_unsupported {α : Type} {Q : α → Prop} (u : Unsupported) : Tame P Q (unsupported u : Sem α) := Tame.halt _ (.inr (.inr ⟨_, rfl⟩))
theorem q_stuck {α : Type} {Q : α → Prop} (u : String) : Tame P Q (stuck u : Sem α) := Tame.halt _ (.inr (.inl ⟨_, rfl⟩))
theorem q_runtimePanic {α : Type} {Q : α → Prop} (e : RuntimeError) : Tame P Q (runtimePanic e : Sem α) := by
  unfold runtimePanic
  refine Tame.bind (Q := fun _ => True) t_program fun _ _ => ?_
  cases e <;> dsimp only
  case typeAssertion => exact Tame.bind (Q := fun _ => True) (t_elemOf _) fun _ _ => Tame.bind (Q := fun _ => True) (t_newVar _ _) fun _ _ => q_goPanic _
  case panicNil => exact Tame.bind (Q := fun _ => True) (t_elemOf _) fun _ _ => Tame.bind (Q := fun _ => True) (t_newVar _ _) fun _ _ => q_goPanic _
  all_goals exact q_goPanic _

theorem frOk_enter (hF : pl.Fits P) {g : FuncId} (hg : g ∈ pl.good) {args : Array Value} (ha : ∀ t, pl.pin g t = true → t < args.size → pl.Vok (args.getD t undef)) : pl.FrOk (Frame.enter P g args .normal) := by
  obtain ⟨fn, c, hf, hb, hn, hc⟩ := hF.body g hg
  refine ⟨hg, rfl, rfl, rfl, fun t ht => ?_, fun it hit => ?_⟩
  · show pl.Vok ((args ++ Array.replicate _ undef).getD t undef)
    by_cases hlt : t < args.size
    · have := ha t ht hlt
      rw [Array.getD_eq_getD_getElem?] at this ⊢
      rwa [Array.getElem?_append_left hlt]
    · left
      rw [Array.getD_eq_getD_getElem?, Array.getElem?_append_right (Nat.le_of_not_lt hlt)]
      rw [Array.getElem?_replicate]
      split <;> rfl
  · simp only [Frame.enter, hf, Option.bind_some, hb, Option.getD_some, List.mem_singleton] at hit
    subst hit
    exact hc

theorem tame_callFunc (hF : pl.Fits P) {g : FuncId} (hg : g ∈ pl.good) {args : Array Value} (ha : ∀ t, pl.pin g t = true → t < args.size → pl.Vok (args.getD t undef)) : Tame P (pl.Yields P) (callFunc g args) := by
  obtain ⟨fn, c, hf, hb, hn, hc⟩ := hF.body g hg
  unfold callFunc
  refine .program _ ?_
  show Tame P _ (Sem.bind (Sem.pure P) _)
  simp only [Sem.bind, hf, hn, hb, Option.isNone_some, Bool.false_eq_true, if_false]
  exact .pure _ (frOk_enter hF hg ha)

theorem vok_operand {fr : Frame} (h : pl.FrOk fr) {x : Operand} (hx : pl.pinOperand fr.fn x = true) : pl.Vok (fr.eval x) := by
  cases x with
  | tmp t => exact h.pins t hx
  | func g => exact .inr ⟨g, by simpa [Plan.pinOperand] using hx, rfl⟩
  | const v => cases hx
  | global g => cases hx

theorem tame_op (hF : pl.Fits P) {fr : Frame} (h : pl.FrOk fr) {o : Oper} (ho : pl.opOk fr.fn o = true) : Tame P (pl.Yields P) (execOp fr.eval o) := by
  unfold Plan.opOk at ho
  simp only [Bool.and_eq_true] at ho
  obtain ⟨_, ho⟩ := ho
  unfold execOp
  cases hop : o.op <;> rw [hop] at ho <;> dsimp only at ho ⊢ <;> (try (exact absurd ho Bool.false_ne_true))
  case move => exact .pure _ trivial
  case assign => exact .pure _ trivial
  case pick => exact Tame.bind (t_asBool _) fun _ _ => .pure _ trivial
  case alloc => exact tame_value (t_alloc _ _ _)
  case box => exact tame_value (t_box _ _)
  case build => exact tame_value (t_build _ _)
  case buildSlice => exact tame_value (t_buildSlice _ _ _)
  case load => exact tame_value (t_loadAt _ _)
  case store => exact tame_unit (t_storeAt _ _ _)
  case nilCheck x =>
    repeat' first
      | with_reducible exact q_runtimePanic _
      | with_reducible exact q_unsupported _
      | with_reducible exact t_program
      | with_reducible exact t_nilAhead _ _ _ _
      | with_reducible refine Tame.bind (Q := fun _ => True) ?_ (fun _ _ => ?_)
      | exact .pure _ trivial
      | intro _
      | dsimp only
      | split
  case binOp => exact tame_value (Tame.bind (t_eqGuard _ _ _ _ _ _) fun _ _ => t_binOp _ _ _ _)
  case unOp => exact tame_value (t_unary _ _)
  case convert => exact tame_value (t_convert _ _ _)
  case makeSlice => exact tame_value (t_makeSlice _ _ _)
  case slice => exact tame_value (t_sliceAt _ _ _ _ _)
  case fieldAddr => exact tame_value (t_fieldAt _ _ _)
  case indexAddr => exact tame_value (t_indexAt _ _ _)
  case index => exact tame_value (t_index _ _ _)
  case extract => exact tame_value (t_extract _ _)
  case call c =>
    obtain ⟨cal, args, aty⟩ := c
    cases cal with
    | builtin b =>
      have hb : b = .append ∨ b = .len ∨ b = .min := by
        cases b <;> simp [plainBuiltin] at ho ⊢
      show Tame P _ (resolve _ _ _ >>= _)
      unfold resolve
      refine Tame.bind (Q := fun d => ∃ a, d = _) (.pure _ ⟨0, rfl⟩) ?_
      rintro _ ⟨_, rfl⟩
      dsimp only [invoke]
      rcases hb with rfl | rfl | rfl
      · exact tame_value (t_append _ _ _)
      · exact tame_value (t_len _ _ _)
      · exact tame_value (t_min _ _ _)
    | invoke r m => exact absurd ho Bool.false_ne_true
    | value x =>
      cases x with
      | const v => exact absurd ho Bool.false_ne_true
      | global g => exact absurd ho Bool.false_ne_true
      | func g =>
        dsimp only at ho
        simp only [Bool.and_eq_true] at ho
        obtain ⟨hg, ha⟩ := ho
        show Tame P _ (resolve _ _ _ >>= _)
        refine Tame.bind (Q := fun d => d = { target := .fn (.func g) #[], args := #[] ++ args.map fr.eval }) (.pure _ rfl) ?_
        rintro _ rfl
        dsimp only [invoke]
        refine tame_callFunc hF (by simpa using hg) ?_
        intro t ht hlt
        simp only [Array.append_empty, Array.empty_append, Array.size_map] at hlt
        have h1 := List.all_eq_true.1 ha t (by simpa using hlt)
        simp only [ht, Bool.not_true, Bool.false_or, Array.getElem?_eq_getElem hlt] at h1
        have := vok_operand h h1
        simpa [Array.getD_eq_getD_getElem?, Array.getElem?_eq_getElem hlt] using this
      | tmp t =>
        dsimp only at ho
        show Tame P _ (resolve _ _ _ >>= _)
        unfold resolve
        dsimp only
        rcases h.pins t ho with e | ⟨g, hg, e⟩
        · have e' : fr.eval (.tmp t) = undef := e
          rw [e']
          exact Tame.bind (Q := fun _ => False) (Tame.halt _ (.inr (.inl ⟨_, rfl⟩))) fun _ hx => hx.elim
        · have e' : fr.eval (.tmp t) = .func (.func g) #[] #[] := e
          rw [e']
          refine Tame.bind (Q := fun d => d = { target := .fn (.func g) #[], args := #[] ++ args.map fr.eval }) (.pure _ rfl) ?_
          rintro _ rfl
          dsimp only [invoke]
          obtain ⟨hgg, hno⟩ := hF.vals g hg
          exact tame_callFunc hF hgg fun t ht => by rw [hno t] at ht; cases ht
end
end Go.Proofs.Ytmdcpmfanpopgaa
/- One step of a goroutine within plain functions. -/
namespace Go.Proofs.Ytmdcpmfanpopgaa
open Go Go.Conc
set_option linter.unusedSimpArgs false
set_option linter.unusedVariables false

section
variable {pl : Plan} {P : Program}

theorem frOk_finish {fr : Frame} (h : pl.FrOk fr) {ops : Array Oper} {i : Nat} {rest : List Nat} {k : List Item} (ht : fr.todo = .inRegion ops (i :: rest) :: k) {v : Value} (hv : ∀ d, (ops[i]?).bind (·.dst) = some d → pl.pin fr.fn d = true → pl.Vok v) : pl.FrOk (fr.finish v) := by
  have hitem := h.todo
  rw [ht] at hitem
  have e : fr.finish v = { fr with tmps := match (ops[i]?).bind (·.dst) with | some d => fr.tmps.setIfInBounds d v | none => fr.tmps, todo := .inRegion ops rest :: k } := by
    unfold Frame.finish; rw [ht]; rfl
  rw [e]
  refine ⟨h.good, h.defers, h.round, h.kind, fun t htp => ?_, fun it hit => ?_⟩
  · dsimp only at htp ⊢
    cases hd : (ops[i]?).bind (·.dst) with
    | none => exact h.pins t htp
    | some d =>
      dsimp only
      by_cases e : d = t
      · subst e
        rw [Array.getD_eq_getD_getElem?, Array.getElem?_setIfInBounds_self]
        split
        · exact hv d hd htp
        · exact .inl rfl
      · have := h.pins t htp
        rw [Array.getD_eq_getD_getElem?] at this ⊢
        rwa [Array.getElem?_setIfInBounds_ne e]
  · rcases List.mem_cons.1 hit with rfl | hk
    · exact hitem (.inRegion ops (i :: rest)) (List.mem_cons_self ..)
    · exact hitem it (List.mem_cons_of_mem _ hk)

theorem frOk_mode {fr : Frame} (h : pl.FrOk fr) (m : FrameMode) : pl.FrOk { fr with mode := m } := ⟨h.good, h.defers, h.round, h.kind, h.pins, h.todo⟩
theorem frOk_raise {fr : Frame} (h : pl.FrOk fr) (vs : List PanicEntry) : pl.FrOk (fr.raise vs) := by
  unfold Frame.raise
  split <;> exact ⟨h.good, h.defers, h.round, h.kind, h.pins, h.todo⟩
theorem frOk_todo {fr : Frame} (h : pl.FrOk fr) {todo : List Item} (ht : ∀ it ∈ todo, pl.itemOk fr.fn it = true) : pl.FrOk { fr with todo } := ⟨h.good, h.defers, h.round, h.kind, h.pins, ht⟩

/-- The step is one of its own, the same whoever stands below and on every tape that answers alike. -/
def Moves (pl : Plan) (P : Program) (fr : Frame) (top : List Frame) (w : World) : Prop :=
  ∃ fr' top' w' es m, pl.FrOk fr' ∧ (∀ c ∈ top', pl.Waits c) ∧ Mild w w' ∧ w'.drawn = w.drawn + m ∧ (∀ e ∈ es, EvIn w'.heap.size e) ∧
    ∀ main cs τ d, Alike w τ d m → stepG P main (G fr (top ++ cs)) (tap w τ d) = .go (G fr' (top' ++ cs)) (tap w' τ (d + m)) es
def Ends (P : Program) (fr : Frame) (top : List Frame) (w : World) : Prop :=
  ∃ m, ∀ main cs τ d, Alike w τ d m → ∃ o w' es, stepG P main (G fr (top ++ cs)) (tap w τ d) = .ended o w' es

theorem moves_to {fr fr' : Frame} {top top' : List Frame} {w : World} (hf : pl.FrOk fr') (ht : ∀ c ∈ top', pl.Waits c)
    (h : ∀ main cs u, stepG P main (G fr (top ++ cs)) u = .go (G fr' (top' ++ cs)) u #[]) : Moves pl P fr top w :=
  ⟨fr', top', w, #[], 0, hf, ht, Mild.refl w, rfl, by simp, fun main cs τ d _ => h main cs _⟩
theorem ends_of {fr : Frame} {top : List Frame} {w : World} (h : ∀ main cs u, ∃ o w' es, stepG P main (G fr (top ++ cs)) u = .ended o w' es) : Ends P fr top w :=
  ⟨0, fun main cs τ d _ => h main cs _⟩

theorem stepG_run {fr : Frame} (hm : fr.mode = .run) (main : Bool) (cs : List Frame) (u : World) : stepG P main (G fr cs) u = stepG.exec P main true fr cs none u := by
  simp only [stepG, G, hm]
theorem stepG_unwind {fr : Frame} (hm : fr.mode ≠ .run) (main : Bool) (cs : List Frame) (u : World) : stepG P main (G fr cs) u = unwind P main fr cs none u := by
  simp only [stepG, G]
  all_goals (cases h : fr.mode with
  | run => exact absurd h hm
  | returning => rfl
  | panicking c => rfl)

/-- What an operation comes to. -/
theorem apply_ok (hF : pl.Fits P) {fr : Frame} (h : pl.FrOk fr) {top : List Frame} (ht : ∀ c ∈ top, pl.Waits c) {ops : Array Oper} {i : Nat} {rest : List Nat} {k : List Item} (htodo : fr.todo = .inRegion ops (i :: rest) :: k)
    {o : Oper} (ho : ops[i]? = some o) (hok : pl.opOk fr.fn o = true) {w : World} (hst : ∀ main cs u, stepG P main (G fr (top ++ cs)) u = stepG.apply P true fr (top ++ cs) none (execOp fr.eval o) u) : Moves pl P fr top w ∨ Ends P fr top w := by
  have hbind : (ops[i]?).bind (·.dst) = o.dst := by rw [ho]; rfl
  -- what is yielded into a pinned temporary
  have hpin : ∀ d, o.dst = some d → pl.pin fr.fn d = true → ∃ x, pl.pinOperand fr.fn x = true ∧ execOp fr.eval o = .pure (.value (fr.eval x)) := by
    intro d hd hp
    unfold Plan.opOk at hok
    rw [hd] at hok
    simp only [Bool.and_eq_true, hp, Bool.not_true, Bool.false_or] at hok
    obtain ⟨h1, _⟩ := hok
    unfold execOp
    cases hop : o.op <;> rw [hop] at h1 <;> first | (exact absurd h1 Bool.false_ne_true) | exact ⟨_, h1, rfl⟩
  have htame : Tame P (fun n => pl.Yields P n ∧ (∀ v, n = .value v → pl.FrOk (fr.finish v)) ∧ (n = .skip → pl.FrOk (fr.finish undef)) ∧ (∀ f a, n = .enter f a → pl.Waits fr)) (execOp fr.eval o) := by
    by_cases hd : ∃ d, o.dst = some d ∧ pl.pin fr.fn d = true
    · obtain ⟨d, hd, hp⟩ := hd
      obtain ⟨x, hx, hex⟩ := hpin d hd hp
      rw [hex]
      refine .pure _ ⟨trivial, fun v e => ?_, fun e => (by cases e), fun _ _ e => (by cases e)⟩
      cases e
      exact frOk_finish h htodo fun _ _ _ => vok_operand h hx
    · have hfin : ∀ v, pl.FrOk (fr.finish v) := fun v => frOk_finish h htodo fun d hd' hp => absurd ⟨d, hbind ▸ hd', hp⟩ hd
      exact tame_mono (fun n hn => ⟨hn, fun v _ => hfin v, fun _ => hfin undef, fun _ _ _ => ⟨h, hfin⟩⟩) (tame_op hF h hok)
  obtain ⟨r, es, m, R⟩ := htame.runs w #[]
  have hkind : (match fr.todo with | .call _ true _ _ :: _ => CallKind.wrapped | _ => .normal) = .normal := by rw [htodo]
  have hek : (fr.kind == CallKind.early) = false := by rw [h.kind]; rfl
  have hrun : ∀ τ d, Alike w τ d m → (execOp fr.eval o).runT P (tap w τ d) #[] = (rtap τ (d + m) r, es) := fun τ d ha => by have := R.other τ d ha; simpa using this
  have hsub : ∀ e ∈ seen P fr.fn es, EvIn (rworld r).heap.size e := fun e he => R.evs e (mem_seen he)
  have he0 : ∀ x : Array Event, x ++ #[] = x := fun x => by simp
  cases r with
  | ok n w' =>
    obtain ⟨hY, hv, hs, hen⟩ := R.post n w' rfl
    cases n with
    | value v =>
      refine .inl ⟨fr.finish v, top, w', seen P fr.fn es, m, hv v rfl, ht, R.mild, R.drawn, hsub, fun main cs τ d ha => ?_⟩
      rw [hst]; simp only [stepG.apply, if_true, hrun τ d ha, rtap, hek, Bool.false_eq_true, if_false, GStep.after, he0]; rfl
    | skip =>
      refine .inl ⟨fr.finish undef, top, w', seen P fr.fn es, m, hs rfl, ht, R.mild, R.drawn, hsub, fun main cs τ d ha => ?_⟩
      rw [hst]; simp only [stepG.apply, if_true, hrun τ d ha, rtap, hek, Bool.false_eq_true, if_false, GStep.after, he0]; rfl
    | enter f a =>
      refine .inl ⟨Frame.enter P f a .normal, fr :: top, w', seen P fr.fn es, m, hY, ?_, R.mild, R.drawn, hsub, fun main cs τ d ha => ?_⟩
      · intro c hc
        rcases List.mem_cons.1 hc with rfl | hc
        · exact hen f a rfl
        · exact ht c hc
      · rw [hst]; simp only [stepG.apply, if_true, hrun τ d ha, rtap, hek, Bool.false_eq_true, if_false, GStep.after, he0, htodo]; rfl
    | _ => exact hY.elim
  | halt hh w' =>
    rcases R.halts hh w' rfl with ⟨v, rfl⟩ | ⟨s, rfl⟩ | ⟨u, rfl⟩
    · refine .inl ⟨fr.raise [{ v, recovered := false }], top, w', seen P fr.fn es, m, frOk_raise h _, ht, R.mild, R.drawn, hsub, fun main cs τ d ha => ?_⟩
      rw [hst]; simp only [stepG.apply, if_true, hrun τ d ha, rtap, hek, Bool.false_eq_true, if_false, GStep.after, he0]; rfl
    · refine .inr ⟨m, fun main cs τ d ha => ?_⟩
      rw [hst]; simp only [stepG.apply, if_true, hrun τ d ha, rtap, hek, Bool.false_eq_true, if_false, GStep.after]; exact ⟨_, _, _, rfl⟩
    · refine .inr ⟨m, fun main cs τ d ha => ?_⟩
      rw [hst]
      cases u <;> simp only [stepG.apply, if_true, hrun τ d ha, rtap, hek, Bool.false_eq_true, if_false, GStep.after] <;> first | exact ⟨_, _, _, rfl⟩ | skip
      rename_i g
      simp only [early, hF.early.1, hF.early.2 g, Bool.not_true, Bool.false_eq_true, if_false]
      exact ⟨_, _, _, rfl⟩

theorem results_tame (fn : Func) (tmps : Array Value) : T P (results fn tmps) := by
  unfold results
  refine Tame.bind (Q := fun _ => True) (tame_mapM _ (fun x => ?_) _) fun _ _ => t_pure _
  cases x with
  | tmp t => exact t_pure _
  | cell a t => exact Tame.bind (Q := fun _ => True) (t_asAddr _) fun _ _ => t_loadVar _ _

theorem mem_exitTo {id : Nat} : ∀ {k k' : List Item}, exitTo id k = some k' → ∀ it ∈ k', it ∈ k
  | [], k', h => by simp [exitTo] at h
  | x :: k, k', h => by
    cases x with
    | inBlock id' =>
      simp only [exitTo] at h
      split at h
      · cases h; exact fun it hit => List.mem_cons_of_mem _ hit
      · exact fun it hit => List.mem_cons_of_mem _ (mem_exitTo h it hit)
    | _ =>
      simp only [exitTo] at h
      exact fun it hit => List.mem_cons_of_mem _ (mem_exitTo h it hit)

/-- ████ ONE STEP ████ -/
theorem step_ok (hF : pl.Fits P) {fr : Frame} (h : pl.FrOk fr) {top : List Frame} (ht : ∀ c ∈ top, pl.Waits c) (hne : fr.mode = .run ∨ top ≠ []) (w : World) : Moves pl P fr top w ∨ Ends P fr top w := by
  obtain ⟨fn, c, hf, hb, hn, hc⟩ := hF.body fr.fn h.good
  cases hmode : fr.mode with
  | run =>
    have hitems := h.todo
    have leave : (∀ main cs u, stepG P main (G fr (top ++ cs)) u = .go (G { fr with mode := .returning } (top ++ cs)) u) → Moves pl P fr top w ∨ Ends P fr top w := fun hj =>
      .inl (moves_to (frOk_mode h .returning) ht fun main cs u => hj main cs u)
    cases htodo : fr.todo with
    | nil => exact leave fun main cs u => by rw [stepG_run hmode]; simp only [stepG.exec, htodo, h.round]; rfl
    | cons it k =>
      rw [htodo] at hitems
      have hit := hitems it (List.mem_cons_self ..)
      have hk : ∀ x ∈ k, pl.itemOk fr.fn x = true := fun x hx => hitems x (List.mem_cons_of_mem _ hx)
      have cons2 : ∀ {x : Item} {l : List Item}, pl.itemOk fr.fn x = true → (∀ y ∈ l, pl.itemOk fr.fn y = true) → ∀ y ∈ x :: l, pl.itemOk fr.fn y = true := fun hx hl y hy => by
        rcases List.mem_cons.1 hy with rfl | hy
        · exact hx
        · exact hl y hy
      have go1 : ∀ {todo : List Item}, (∀ y ∈ todo, pl.itemOk fr.fn y = true) → (∀ main cs u, stepG P main (G fr (top ++ cs)) u = .go (G { fr with todo } (top ++ cs)) u #[]) → Moves pl P fr top w ∨ Ends P fr top w := fun hy hs => .inl (moves_to (frOk_todo h hy) ht hs)
      cases it with
      | code c =>
        cases c with
        | skip => exact go1 hk fun main cs u => by rw [stepG_run hmode]; simp only [stepG.exec, htodo]; rfl
        | region id ops draw =>
          have hops : pl.itemOk fr.fn (.inRegion ops []) = true := hit
          cases draw with
          | false => exact go1 (cons2 (x := .inRegion ops (List.range ops.size)) hops hk) fun main cs u => by rw [stepG_run hmode]; simp only [stepG.exec, htodo]; rfl
          | true =>
            refine .inl ⟨{ fr with todo := .inRegion ops (Region.schedule (P.follows .mixedOrders) ops (w.tape w.drawn (.order fr.fn id))) :: k }, top, { w with drawn := w.drawn + 1 }, #[], 1, frOk_todo h (cons2 hops hk), ht, ⟨rfl, rfl, rfl, Nat.le_refl _, fun _ _ _ _ _ _ _ e => e⟩, rfl, by simp, fun main cs τ d ha => ?_⟩
            have hq : τ d (.order fr.fn id) = w.tape w.drawn (.order fr.fn id) := by simpa using ha 0 (by omega) (.order fr.fn id)
            rw [stepG_run hmode]
            simp only [stepG.exec, htodo, choose, Sem.run, Question.forced, Question.cut, tap, Bool.not_true, Bool.false_eq_true, if_false, hq]
            rfl
        | seq a b =>
          have hab : (pl.codeOk fr.fn a && pl.codeOk fr.fn b) = true := hit
          rw [Bool.and_eq_true] at hab
          exact go1 (cons2 (x := .code a) hab.1 (cons2 (x := .code b) hab.2 hk)) fun main cs u => by rw [stepG_run hmode]; simp only [stepG.exec, htodo]; rfl
        | cond x a b =>
          have hab : (pl.codeOk fr.fn a && pl.codeOk fr.fn b) = true := hit
          rw [Bool.and_eq_true] at hab
          by_cases hx : ∃ t, fr.eval x = .bool t
          · obtain ⟨t, hx⟩ := hx
            exact go1 (todo := .code (if t then a else b) :: k) (cons2 (by cases t; exact hab.2; exact hab.1) hk) fun main cs u => by rw [stepG_run hmode]; simp only [stepG.exec, htodo, hx]; rfl
          · refine .inr (ends_of fun main cs u => ?_)
            rw [stepG_run hmode]
            simp only [stepG.exec, htodo]
            split
            · rename_i t e; exact absurd ⟨t, e⟩ hx
            · exact ⟨_, _, _, rfl⟩
        | block id c => exact go1 (cons2 (x := .code c) hit (cons2 (x := .inBlock id) rfl hk)) fun main cs u => by rw [stepG_run hmode]; simp only [stepG.exec, htodo]; rfl
        | loop c => exact go1 (cons2 (x := .code c) hit (cons2 (x := .inLoop c) hit hk)) fun main cs u => by rw [stepG_run hmode]; simp only [stepG.exec, htodo]; rfl
        | rangeFunc => exact absurd hit Bool.false_ne_true
        | exit id =>
          cases he : exitTo id k with
          | some k' => exact go1 (fun y hy => hk y (mem_exitTo he y hy)) fun main cs u => by rw [stepG_run hmode]; simp only [stepG.exec, htodo, he, Option.elim]; rfl
          | none => exact .inr (ends_of fun main cs u => by rw [stepG_run hmode]; simp only [stepG.exec, htodo, he, Option.elim, h.round]; exact ⟨_, _, _, rfl⟩)
        | scope => exact absurd hit Bool.false_ne_true
        | label => exact absurd hit Bool.false_ne_true
        | goto => exact absurd hit Bool.false_ne_true
        | ret => exact leave fun main cs u => by rw [stepG_run hmode]; simp only [stepG.exec, htodo, h.round]; rfl
        | refuse => exact absurd hit Bool.false_ne_true
      | inBlock id => exact go1 hk fun main cs u => by rw [stepG_run hmode]; simp only [stepG.exec, htodo]; rfl
      | inLoop c => exact go1 (cons2 (x := .code c) hit (cons2 (x := .inLoop c) hit hk)) fun main cs u => by rw [stepG_run hmode]; simp only [stepG.exec, htodo]; rfl
      | inRegion ops l =>
        cases l with
        | nil => exact go1 hk fun main cs u => by rw [stepG_run hmode]; simp only [stepG.exec, htodo]; rfl
        | cons i rest =>
          by_cases hw : (((ops[i]?).map (Region.wanted · (yielded ops fr.tmps))).getD false) = true
          · cases ho : ops[i]? with
            | none => rw [ho] at hw; exact absurd hw Bool.false_ne_true
            | some o =>
              have hok : pl.opOk fr.fn o = true := by
                have : ops.toList.all (pl.opOk fr.fn) = true := hit
                exact List.all_eq_true.1 this o (Array.mem_toList_iff.2 (Array.mem_of_getElem? ho))
              refine apply_ok hF h ht htodo ho hok fun main cs u => ?_
              rw [stepG_run hmode]
              simp only [stepG.exec, htodo]
              rw [if_pos hw]
              simp only [stepG.oper, Frame.oper?, htodo, ho, h.round]
          · refine .inl (moves_to (frOk_finish h htodo (v := undef) fun _ _ _ => .inl rfl) ht fun main cs u => ?_)
            rw [stepG_run hmode]
            simp only [stepG.exec, htodo, hw, if_false]
            rfl
      | _ => exact absurd hit Bool.false_ne_true
  | returning =>
    cases top with
    | nil => rcases hne with x | x
             · rw [hmode] at x; cases x
             · exact absurd rfl x
    | cons c rest =>
      have hst : ∀ main cs u, stepG P main (G fr (c :: rest ++ cs)) u = GStep.after (seen P fr.fn ((results fn fr.tmps).runT P u #[]).2) (match ((results fn fr.tmps).runT P u #[]).1 with
          | .ok v w => .go (G (c.finish v) (rest ++ cs)) w
          | .halt (.stuck s) w => .ended (.stuck s (fr.pos P)) w
          | .halt _ w => .ended (.stuck "return: the result variables cannot be read" (fr.pos P)) w) := by
        intro main cs u
        rw [stepG_unwind (by rw [hmode]; simp)]
        unfold unwind
        simp only [h.defers, hmode, hf]
        congr 1
        cases ((results fn fr.tmps).runT P u #[]).1 with
        | ok v w => simp only [doReturn, List.cons_append, h.kind]; rfl
        | halt hh w => cases hh <;> rfl
      obtain ⟨r, es, m, R⟩ := (results_tame (P := P) fn fr.tmps).runs w #[]
      have hrun : ∀ τ d, Alike w τ d m → (results fn fr.tmps).runT P (tap w τ d) #[] = (rtap τ (d + m) r, es) := fun τ d ha => by have := R.other τ d ha; simpa using this
      have hsub : ∀ e ∈ seen P fr.fn es, EvIn (rworld r).heap.size e := fun e he => R.evs e (mem_seen he)
      cases r with
      | ok v w' =>
        refine .inl ⟨c.finish v, rest, w', seen P fr.fn es, m, (ht c (List.mem_cons_self ..)).fin v, fun x hx => ht x (List.mem_cons_of_mem _ hx), R.mild, R.drawn, hsub, fun main cs τ d ha => ?_⟩
        rw [hst]; simp only [hrun τ d ha, rtap, GStep.after, Array.append_empty]
      | halt hh w' =>
        refine .inr ⟨m, fun main cs τ d ha => ?_⟩
        rw [hst]; simp only [hrun τ d ha, rtap]
        cases hh <;> exact ⟨_, _, _, rfl⟩
  | panicking chain =>
    cases top with
    | nil => rcases hne with x | x
             · rw [hmode] at x; cases x
             · exact absurd rfl x
    | cons c rest =>
      refine .inl (moves_to (fr' := c.raise chain) (top' := rest) (frOk_raise (ht c (List.mem_cons_self ..)).ok _) (fun x hx => ht x (List.mem_cons_of_mem _ hx)) fun main cs u => ?_)
      rw [stepG_unwind (by rw [hmode]; simp)]
      unfold unwind
      have hcat : fr.catches P = false := by unfold Frame.catches; rw [hf]
      simp only [h.defers, hmode, hcat, List.cons_append, Bool.false_eq_true, if_false]
      rfl
end
end Go.Proofs.Ytmdcpmfanpopgaa
/- A contract proved of a machine of one goroutine, lifted to a goroutine in company of others that touch nothing of the world but the tape. -/
namespace Go.Proofs.Ytmdcpmfanpopgaa
open Go Go.Conc
set_option linter.unusedSimpArgs false
set_option linter.unusedVariables false

/-- On its way to a stop, by steps of its own; ahead of each the count of draws may be another. No bound: a well-founded tree. -/
inductive GoesW (P : Program) (main : Bool) (D : World → World → Array Event → Prop) (Stop : Goroutine → World → Prop) : Goroutine → World → Prop where
  | stop {g : Goroutine} {w : World} (h : ∀ d, Stop g (w.at d)) : GoesW P main D Stop g w
  | step {g : Goroutine} {w : World} (ng : Nat → Goroutine) (nw : Nat → World) (ne : Nat → Array Event) (hr : g.status = .running) (h : ∀ d, stepG P main g (w.at d) = .go (ng d) (nw d) (ne d)) (hD : ∀ d, D (w.at d) (nw d) (ne d))
      (hk : ∀ d, GoesW P main D Stop (ng d) (nw d)) : GoesW P main D Stop g w

section
variable {P : Program} {main : Bool} {D D' : World → World → Array Event → Prop} {Stop Stop' : Goroutine → World → Prop}

theorem GoesW.mono (hD : ∀ w w' es, D w w' es → D' w w' es) {g : Goroutine} {w : World} (h : GoesW P main D Stop g w) : GoesW P main D' Stop g w := by
  induction h with
  | stop h => exact .stop h
  | step ng nw ne hr h hd _ ih => exact .step ng nw ne hr h (fun d => hD _ _ _ (hd d)) ih
theorem GoesW.trans {g : Goroutine} {w : World} (h : GoesW P main D Stop g w) (hk : ∀ g w, Stop g w → GoesW P main D Stop' g w) : GoesW P main D Stop' g w := by
  induction h with
  | stop h => exact hk _ _ (h _)
  | step ng nw ne hr h hd _ ih => exact .step ng nw ne hr h hd ih
theorem GoesW.mono_stop {g : Goroutine} {w : World} (h : GoesW P main D Stop g w) (hk : ∀ g w, Stop g w → Stop' g w) : GoesW P main D Stop' g w := by
  induction h with
  | stop h => exact .stop fun d => hk _ _ (h d)
  | step ng nw ne hr h hd _ ih => exact .step ng nw ne hr h hd ih
theorem GoesW.steps {g : Goroutine} {w : World} (hr : g.status = .running) (h : ∀ d, ∃ g' w' es, stepG P main g (w.at d) = .go g' w' es ∧ D (w.at d) w' es ∧ GoesW P main D Stop g' w') : GoesW P main D Stop g w :=
  .step (fun d => (h d).choose) (fun d => (h d).choose_spec.choose) (fun d => (h d).choose_spec.choose_spec.choose) hr (fun d => (h d).choose_spec.choose_spec.choose_spec.1) (fun d => (h d).choose_spec.choose_spec.choose_spec.2.1) (fun d => (h d).choose_spec.choose_spec.choose_spec.2.2)
theorem GoesW.of_goes {n : Nat} : ∀ {g : Goroutine} {w : World}, Goes P main AtRel D Stop n g w → GoesW P main D Stop g w := by
  induction n with
  | zero => exact fun h => .stop fun d => h _ ⟨d, rfl⟩
  | succ n ih =>
    intro g w h
    rcases h with h | ⟨hr, h⟩
    · exact .stop fun d => h _ ⟨d, rfl⟩
    · have : ∀ d, ∃ g' w' es, stepG P main g (w.at d) = .go g' w' es ∧ D (w.at d) w' es ∧ GoesW P main D Stop g' w' := fun d => by
        have hs := h (w.at d) ⟨d, rfl⟩
        cases hgo : stepG P main g (w.at d) with
        | go g' w' es => rw [hgo, goes_go] at hs; exact ⟨g', w', es, rfl, hs.1, ih hs.2⟩
        | _ => rw [hgo] at hs; exact hs.elim
      exact .steps hr this
end

/-- What a step of a lifted call may do. -/
def DM (w w' : World) (es : Array Event) : Prop := Mild w w' ∧ ∀ e ∈ es, EvIn w'.heap.size e

theorem least {N : Nat → Prop} (h : ¬ ∀ i, N i) : ∃ i, ¬ N i ∧ ∀ l, l < i → N l := by
  refine Classical.byContradiction fun hno => h fun i => ?_
  induction i using Nat.strongRecOn with
  | _ i ih => exact Classical.byContradiction fun hi => hno ⟨i, hi, ih⟩
theorem limit {α : Type} [Inhabited α] (T : Nat → List α) (h : ∀ i, ∃ l, T (i + 1) = T i ++ l) : ∃ f : Nat → α, ∀ i k (hk : k < (T i).length), f k = (T i)[k] := by
  have pre : ∀ j i, ∃ l, T (i + j) = T i ++ l := by
    intro j
    induction j with
    | zero => exact fun i => ⟨[], by simp⟩
    | succ j ih =>
      intro i
      obtain ⟨l, hl⟩ := ih i
      obtain ⟨l', hl'⟩ := h (i + j)
      exact ⟨l ++ l', by rw [← Nat.add_assoc, hl', hl, List.append_assoc]⟩
  have same : ∀ i j k (hi : k < (T i).length) (hj : k < (T j).length), (T i)[k] = (T j)[k] := by
    intro i j k hi hj
    rcases Nat.le_total i j with hle | hle
    · obtain ⟨l, hl⟩ := pre (j - i) i
      have e : i + (j - i) = j := by omega
      rw [e] at hl
      simp only [hl, List.getElem_append_left hi]
    · obtain ⟨l, hl⟩ := pre (i - j) j
      have e : j + (i - j) = i := by omega
      rw [e] at hl
      simp only [hl, List.getElem_append_left hj]
  classical
  refine ⟨fun k => if hk : ∃ i, k < (T i).length then (T hk.choose)[k]'hk.choose_spec else default, fun i k hk => ?_⟩
  have hex : ∃ i, k < (T i).length := ⟨i, hk⟩
  simp only [hex, dif_pos]
  exact same _ _ _ _ _

structure Play where
  fr : Frame
  top : List Frame
  w : World
  T : List (Question → Nat)
/-- The tape answers as the list from d on. -/
def Agrees (τ : Tape) (d : Nat) (l : List (Question → Nat)) : Prop := ∀ j (hj : j < l.length), τ (d + j) = l[j]
def Play.Next (P : Program) (p p' : Play) : Prop := ∃ l es, p'.T = p.T ++ l ∧ ∀ main cs τ d, Agrees τ d l → stepG P main (G p.fr (p.top ++ cs)) (tap p.w τ d) = .go (G p'.fr (p'.top ++ cs)) (tap p'.w τ (d + l.length)) es
def Play.Dead (P : Program) (p : Play) : Prop := ∃ l, ∀ main cs τ d, Agrees τ d l → ∃ o w' es, stepG P main (G p.fr (p.top ++ cs)) (tap p.w τ d) = .ended o w' es
def Play.fin (p : Play) : Prop := p.fr.mode ≠ .run ∧ p.top = []
def Play.Good (pl : Plan) (P : Program) (main : Bool) (cs : List Frame) (Stop : Goroutine → World → Prop) (p : Play) : Prop :=
  pl.FrOk p.fr ∧ (∀ x ∈ p.top, pl.Waits x) ∧ ¬ GoesW P main DM Stop (G p.fr (p.top ++ cs)) p.w

def ext (w : World) (m : Nat) : List (Question → Nat) := (List.range m).map fun j => w.tape (w.drawn + j)
theorem ext_length (w : World) (m : Nat) : (ext w m).length = m := by simp [ext]
theorem alike_of_agrees {w : World} {τ : Tape} {d m : Nat} (h : Agrees τ d (ext w m)) : Alike w τ d m := fun j hj q => by
  have := h j (by rw [ext_length]; exact hj)
  have e : (ext w m)[j]'(by rw [ext_length]; exact hj) = w.tape (w.drawn + j) := by simp [ext]
  rw [this, e]
theorem alike_self (w : World) (m : Nat) : Alike w w.tape w.drawn m := fun _ _ _ => rfl

section
variable {pl : Plan} {P : Program} {main : Bool} {cs : List Frame} {Stop : Goroutine → World → Prop}

theorem play_step (hF : pl.Fits P) {p : Play} (h : p.Good pl P main cs Stop) (hnf : ¬ p.fin) : (∃ p', p.Next P p' ∧ p'.Good pl P main cs Stop) ∨ p.Dead P := by
  obtain ⟨hfr, htop, hno⟩ := h
  have hne : p.fr.mode = .run ∨ p.top ≠ [] := by
    by_cases hm : p.fr.mode = .run
    · exact .inl hm
    · exact .inr fun e => hnf ⟨hm, e⟩
  by_cases hd : ∃ d, Ends P p.fr p.top (p.w.at d)
  · obtain ⟨d, m, he⟩ := hd
    exact .inr ⟨ext (p.w.at d) m, fun main cs τ d' ha => he main cs τ d' (alike_of_agrees ha)⟩
  · have hmv : ∀ d, Moves pl P p.fr p.top (p.w.at d) := fun d => (step_ok hF hfr htop hne (p.w.at d)).resolve_right fun e => hd ⟨d, e⟩
    refine Classical.byContradiction fun hcon => hno ?_
    have : ∀ d, ∃ g' w' es, stepG P main (G p.fr (p.top ++ cs)) (p.w.at d) = .go g' w' es ∧ DM (p.w.at d) w' es ∧ GoesW P main DM Stop g' w' := by
      intro d
      obtain ⟨fr', top', w', es, m, h1, h2, h3, h4, h5, h6⟩ := hmv d
      refine ⟨G fr' (top' ++ cs), w', es, ?_, ⟨h3, h5⟩, ?_⟩
      · have := h6 main cs (p.w.at d).tape (p.w.at d).drawn (alike_self _ _)
        rw [tap_self] at this
        rw [this, ← h4]
        have ht : tap w' (p.w.at d).tape w'.drawn = w' := by rw [← h3.tape]; rfl
        rw [ht]
      · refine Classical.byContradiction fun hg => hcon (.inl ⟨⟨fr', top', w', p.T ++ ext (p.w.at d) m⟩, ⟨ext (p.w.at d) m, es, rfl, fun main cs τ d' ha => ?_⟩, h1, h2, hg⟩)
        rw [ext_length]
        exact h6 main cs τ d' (alike_of_agrees ha)
    exact .steps rfl this

theorem lone_inj {fr fr' : Frame} {cs cs' : List Frame} {w w' : World} (h : lone fr cs w = lone fr' cs' w') : fr = fr' ∧ cs = cs' ∧ w = w' := by
  unfold lone at h
  simp only [Machine.mk.injEq, List.cons.injEq, Goroutine.mk.injEq, Array.mk.injEq, and_true, true_and] at h
  exact ⟨h.2.1, h.2.2, h.1⟩

/-- A frame to which no way back leads: whatever comes to it ends at once. -/
def deadEnd : Frame := { fn := 0, tmps := #[], todo := [.code (.refuse "")], defers := [{ target := .nil, args := #[] }], mode := .run, kind := .normal }
theorem deadEnd_finish (v : Value) : deadEnd.finish v = deadEnd := rfl
theorem step_deadEnd (u : World) : ∃ o w', step P (lone deadEnd [] u) = .ended o w' := by
  refine ⟨_, _, step_lone_ended (o := .unsupported (.elab "") (deadEnd.pos P)) (w' := u) ?_⟩
  simp [stepG, deadEnd, stepG.exec]
theorem step_deadRaise (u : World) (ch : List PanicEntry) : ∃ o w', step P (lone (deadEnd.raise ch) [] u) = .ended o w' := by
  refine ⟨_, _, step_lone_ended (w' := u) (o := .unsupported (.noEntry "machine/Return: a deferred call of a nil function value, made while the frame is unwinding") ({ deadEnd.raise ch with defers := [] }.pos P)) ?_⟩
  simp [stepG, deadEnd, Frame.raise, unwind, callDeferred]

theorem runN_ended {m : Machine} {o : Outcome} {w' : World} (h : step P m = .ended o w') (k : Nat) : runN P (k + 1) m = .ended o w' := by simp [runN, h]

/-- Behind the last frame's leaving there is no way on. -/
theorem fatal (hF : pl.Fits P) {fr : Frame} (h : pl.FrOk fr) (hm : fr.mode ≠ .run) (u : World) (k : Nat) (fr' : Frame) (w' : World) : runN P (k + 1) (lone fr [deadEnd] u) ≠ .next (lone fr' [deadEnd] w') := by
  obtain ⟨fn, c, hf, hb, hn, hc⟩ := hF.body fr.fn h.good
  have two : ∀ (x : Frame) (u' : World), step P (lone fr [deadEnd] u) = .next (lone x [] u') → (∃ o w', step P (lone x [] u') = .ended o w') → runN P (k + 1) (lone fr [deadEnd] u) ≠ .next (lone fr' [deadEnd] w') := by
    intro x u' h1 ⟨o, w₂, h2⟩ e
    simp only [runN, h1] at e
    cases k with
    | zero => simp only [runN, Stepped.next.injEq] at e; exact absurd (lone_inj e).2.1 (by simp)
    | succ k => rw [runN_ended h2] at e; cases e
  cases hmode : fr.mode with
  | run => exact absurd hmode hm
  | returning =>
    have hst : stepG P true (G fr [deadEnd]) u = GStep.after (seen P fr.fn ((results fn fr.tmps).runT P u #[]).2) (match ((results fn fr.tmps).runT P u #[]).1 with
        | .ok v w => .go (G deadEnd []) w
        | .halt (.stuck s) w => .ended (.stuck s (fr.pos P)) w
        | .halt _ w => .ended (.stuck "return: the result variables cannot be read" (fr.pos P)) w) := by
      rw [stepG_unwind (by rw [hmode]; simp)]
      unfold unwind
      simp only [h.defers, hmode, hf]
      congr 1
      cases ((results fn fr.tmps).runT P u #[]).1 with
      | ok v w => simp only [doReturn, h.kind]; rfl
      | halt hh w => cases hh <;> rfl
    generalize hr : (results fn fr.tmps).runT P u #[] = r at hst
    obtain ⟨r, es⟩ := r
    cases r with
    | ok v w₁ =>
      refine two deadEnd w₁ (step_lone_go ?_) (step_deadEnd w₁)
      show (stepG P true (G fr [deadEnd]) u).bare = _
      rw [hst]; rfl
    | halt hh w₁ =>
      have : ∃ o w', (stepG P true (G fr [deadEnd]) u).bare = .ended o w' := by rw [hst]; cases hh <;> exact ⟨_, _, rfl⟩
      obtain ⟨o, w₂, h2⟩ := this
      intro e
      rw [runN_ended (step_lone_ended h2)] at e
      cases e
  | panicking chain =>
    refine two (deadEnd.raise chain) u (step_lone_go ?_) (step_deadRaise u chain)
    show (stepG P true (G fr [deadEnd]) u).bare = _
    rw [stepG_unwind (by rw [hmode]; simp)]
    unfold unwind
    have hcat : fr.catches P = false := by unfold Frame.catches; rw [hf]
    simp only [h.defers, hmode, hcat, Bool.false_eq_true, if_false]
    rfl

/-- ████ A LONE CONTRACT, IN COMPANY ████ -/
theorem goesW_call (hF : pl.Fits P) {f : FuncId} {args : Array Value} {w : World} (hent : pl.FrOk (Frame.enter P f args .normal)) {R : Value → World → Prop} (hRt : ∀ v w τ d, R v w → R v (tap w τ d))
    (hc : ∀ τ d, Calls P f args (tap w τ d) fun e w' => ∃ v, e = .returned v ∧ R v w') (c : Frame) :
    GoesW P main DM (fun g w' => ∃ v, g = G (c.finish v) cs ∧ R v w') (G (Frame.enter P f args .normal) (c :: cs)) w := by
  refine Classical.byContradiction fun hno => ?_
  generalize hStop : (fun (g : Goroutine) (w' : World) => ∃ v, g = G (c.finish v) cs ∧ R v w') = Stop at hno
  classical
  let nx : Play → Play := fun p => if h : ∃ p', p.Next P p' ∧ p'.Good pl P main (c :: cs) Stop then h.choose else p
  let p0 : Play := ⟨Frame.enter P f args .normal, [], w, []⟩
  let seq : Nat → Play := fun n => Nat.rec p0 (fun _ p => nx p) n
  have hseq : ∀ i, seq (i + 1) = nx (seq i) := fun i => rfl
  let N : Play → Prop := fun p => ¬ p.fin ∧ ∃ p', p.Next P p' ∧ p'.Good pl P main (c :: cs) Stop
  have hgood : ∀ i, (seq i).Good pl P main (c :: cs) Stop := by
    intro i
    induction i with
    | zero => exact ⟨hent, ⟨fun x hx => (by cases hx), hno⟩⟩
    | succ i ih =>
      rw [hseq]
      by_cases h : ∃ p', (seq i).Next P p' ∧ p'.Good pl P main (c :: cs) Stop
      · simp only [nx, dif_pos h]; exact h.choose_spec.2
      · simp only [nx, dif_neg h]; exact ih
  have hnext : ∀ i, N (seq i) → (seq i).Next P (seq (i + 1)) := by
    intro i hN
    rw [hseq]
    simp only [nx, dif_pos hN.2]
    exact hN.2.choose_spec.1
  have hT : ∀ i, ∃ l, (seq (i + 1)).T = (seq i).T ++ l := by
    intro i
    by_cases h : ∃ p', (seq i).Next P p' ∧ p'.Good pl P main (c :: cs) Stop
    · have := h.choose_spec.1
      rw [hseq]
      simp only [nx, dif_pos h]
      obtain ⟨l, _, hl, _⟩ := this
      exact ⟨l, hl⟩
    · rw [hseq]; simp only [nx, dif_neg h]; exact ⟨[], by simp⟩
  have sim : ∀ (τ : Tape) (i : Nat), (∀ l, l < i → N (seq l)) → Agrees τ 0 (seq i).T →
      runN P i (lone (Frame.enter P f args .normal) [deadEnd] (tap w τ 0)) = .next (lone (seq i).fr ((seq i).top ++ [deadEnd]) (tap (seq i).w τ (seq i).T.length)) := by
    intro τ i
    induction i with
    | zero => intro _ _; rfl
    | succ i ih =>
      intro hN ha
      obtain ⟨l, es, hl, hs⟩ := hnext i (hN i (by omega))
      have ha0 : Agrees τ 0 (seq i).T := fun j hj => by
        have := ha j (by rw [hl, List.length_append]; omega)
        rw [this]
        simp only [hl, List.getElem_append_left hj]
      have ha1 : Agrees τ (seq i).T.length l := fun j hj => by
        have := ha ((seq i).T.length + j) (by rw [hl, List.length_append]; omega)
        rw [Nat.zero_add] at this
        rw [this]
        simp only [hl]
        rw [List.getElem_append_right (by omega)]
        simp
      have hrun := ih (fun l hl => hN l (by omega)) ha0
      have hstep := hs true [deadEnd] τ (seq i).T.length ha1
      rw [runN_add, hrun]
      simp only [runN]
      rw [step_lone_go (fr' := (seq (i + 1)).fr) (cs' := (seq (i + 1)).top ++ [deadEnd]) (w' := tap (seq (i + 1)).w τ (seq (i + 1)).T.length) (by
        show (stepG P true (G (seq i).fr ((seq i).top ++ [deadEnd])) _).bare = _
        rw [hstep, hl, List.length_append]; rfl)]
  -- the contract, on a tape
  have hcon : ∀ τ : Tape, ∃ n fr v w', runN P n (lone (Frame.enter P f args .normal) [deadEnd] (tap w τ 0)) = .next (lone fr [deadEnd] w') ∧ fr.leaving P w' (.returned v) ∧ R v w' := by
    intro τ
    obtain ⟨e, w', fr, ⟨v, rfl, hR⟩, ⟨n, hn⟩, _, hl⟩ := hc τ 0 [deadEnd]
    exact ⟨n, fr, v, w', hn, hl, hR⟩
  -- its end is an end of the play's
  have atEnd : ∀ (τ : Tape) (i : Nat) (fr : Frame) (v : Value) (w' : World), (∀ l, l < i → N (seq l)) → Agrees τ 0 (seq i).T → runN P i (lone (Frame.enter P f args .normal) [deadEnd] (tap w τ 0)) = .next (lone fr [deadEnd] w') → fr.leaving P w' (.returned v) →
      (seq i).fin ∧ (seq i).fr = fr ∧ w' = tap (seq i).w τ (seq i).T.length := by
    intro τ i fr v w' hN ha hr hl
    rw [sim τ i hN ha, Stepped.next.injEq] at hr
    obtain ⟨h1, h2, h3⟩ := lone_inj hr
    have h2' : (seq i).top = [] := by
      have := congrArg List.length h2
      simp at this
      exact this
    refine ⟨⟨?_, h2'⟩, h1, h3.symm⟩
    rw [h1, hl.1]; simp
  have early_no : ∀ (τ : Tape) (i n : Nat) (fr : Frame) (v : Value) (w' : World), (∀ l, l < i → N (seq l)) → Agrees τ 0 (seq i).T → n < i → runN P n (lone (Frame.enter P f args .normal) [deadEnd] (tap w τ 0)) = .next (lone fr [deadEnd] w') → fr.leaving P w' (.returned v) → False := by
    intro τ i n fr v w' hN ha hn hr hl
    have pre : ∀ j, ∃ l, (seq (n + j)).T = (seq n).T ++ l := by
      intro j
      induction j with
      | zero => exact ⟨[], by simp⟩
      | succ j ih =>
        obtain ⟨l, hl⟩ := ih
        obtain ⟨l', hl'⟩ := hT (n + j)
        exact ⟨l ++ l', by rw [← Nat.add_assoc, hl', hl, List.append_assoc]⟩
    obtain ⟨l, hl'⟩ := pre (i - n)
    rw [show n + (i - n) = i by omega] at hl'
    have ha' : Agrees τ 0 (seq n).T := fun j hj => by
      have := ha j (by rw [hl', List.length_append]; omega)
      rw [this]
      simp only [hl', List.getElem_append_left hj]
    exact (hN n hn).1 (atEnd τ n fr v w' (fun l hl => hN l (by omega)) ha' hr hl).1
  by_cases hall : ∀ i, N (seq i)
  · obtain ⟨τ, hτ⟩ := limit (fun i => (seq i).T) hT
    obtain ⟨n, fr, v, w', hn, hl, hR⟩ := hcon τ
    exact (hall n).1 (atEnd τ n fr v w' (fun l _ => hall l) (fun j hj => by rw [Nat.zero_add]; exact hτ n j hj) hn hl).1
  · obtain ⟨i, hi, hmin⟩ : ∃ i, ¬ N (seq i) ∧ ∀ l, l < i → N (seq l) := least hall
    obtain ⟨hfr, htop, hnG⟩ := hgood i
    by_cases hfin : (seq i).fin
    · -- it has come to its end
      let τ : Tape := fun j => ((seq i).T[j]?).getD default
      have ha : Agrees τ 0 (seq i).T := fun j hj => by simp [τ, hj]
      obtain ⟨n, fr, v, w', hn, hl, hR⟩ := hcon τ
      rcases Nat.lt_trichotomy n i with hlt | rfl | hgt
      · exact early_no τ i n fr v w' hmin ha hlt hn hl
      · obtain ⟨_, e1, e2⟩ := atEnd τ n fr v w' hmin ha hn hl
        refine hnG ?_
        obtain ⟨hm, hd, hk, fn, hf, hres⟩ := hl
        rw [hfin.2, List.nil_append, e1]
        obtain ⟨r, es, m, RR⟩ := (results_tame (P := P) fn fr.tmps).runs w' #[]
        have hr1 : r = .ok v w' := by
          have := congrArg Prod.fst RR.run
          rw [Sem.runT_eq] at this
          simp only at this
          rw [← this]; exact hres
        subst hr1
        have hm0 : m = 0 := by have := RR.drawn; simp only [rworld] at this; omega
        subst hm0
        have hrunT : ∀ d, (results fn fr.tmps).runT P ((seq n).w.at d) #[] = (.ok v ((seq n).w.at d), es) := by
          intro d
          have := RR.other (seq n).w.tape d (fun j hj => by omega)
          rw [e2, Array.empty_append] at this
          exact this
        refine .step (fun _ => G (c.finish v) cs) (fun d => (seq n).w.at d) (fun _ => seen P fr.fn es) rfl (fun d => ?_) (fun d => ⟨Mild.refl _, fun e he => ?_⟩) (fun d => .stop fun d' => ?_)
        · rw [stepG_unwind (by rw [hm]; simp)]
          unfold unwind
          simp only [hd, hm, hf, hrunT d, GStep.after, doReturn, hk]
          simp [G]
        · have := RR.evs e (by have := mem_seen he; simpa using this)
          rw [e2] at this
          exact this
        · rw [← hStop]
          refine ⟨v, rfl, ?_⟩
          have := hRt v w' (seq n).w.tape d' hR
          rw [e2] at this
          exact this
      · obtain ⟨k, rfl⟩ : ∃ k, n = i + (k + 1) := ⟨n - i - 1, by omega⟩
        rw [runN_add, sim τ i hmin ha] at hn
        simp only [hfin.2, List.nil_append] at hn
        exact fatal hF hfr hfin.1 _ k fr w' hn
    · -- there is no next step
      have hdead : (seq i).Dead P := (play_step hF (hgood i) hfin).resolve_left fun h => hi ⟨hfin, h⟩
      obtain ⟨l, hdead⟩ := hdead
      let τ : Tape := fun j => (((seq i).T ++ l)[j]?).getD default
      have ha : Agrees τ 0 (seq i).T := fun j hj => by
        simp only [τ, Nat.zero_add]
        rw [List.getElem?_append_left hj, List.getElem?_eq_getElem hj]; rfl
      have ha1 : Agrees τ (seq i).T.length l := fun j hj => by
        simp only [τ]
        rw [List.getElem?_append_right (by omega)]
        simp [hj]
      obtain ⟨n, fr, v, w', hn, hl, hR⟩ := hcon τ
      rcases Nat.lt_trichotomy n i with hlt | rfl | hgt
      · exact early_no τ i n fr v w' hmin ha hlt hn hl
      · exact hfin (atEnd τ n fr v w' hmin ha hn hl).1
      · obtain ⟨k, rfl⟩ : ∃ k, n = i + (k + 1) := ⟨n - i - 1, by omega⟩
        rw [runN_add, sim τ i hmin ha] at hn
        obtain ⟨o, w₂, es, he⟩ := hdead true [deadEnd] τ _ ha1
        dsimp only at hn
        rw [runN_ended (o := o) (w' := w₂) (step_lone_ended (by
          show (stepG P true (G (seq i).fr ((seq i).top ++ [deadEnd])) _).bare = _
          rw [he]; rfl))] at hn
        cases hn
end
end Go.Proofs.Ytmdcpmfanpopgaa
/- The token's frame (Derived/Conc/Token.lean) with walks that bear no bound (GoesW): the holder's walk. -/
namespace Go.Proofs.Ytmdcpmfanpopgaa
open Go Go.Conc
open Go.ConcN (sumTo upd sumTo_upd upd_ne upd_same)
set_option linter.unusedSimpArgs false
set_option linter.unusedVariables false

/-- Nothing is leant on in the world. -/
abbrev KT : World → Prop := fun _ => True
/-- Nothing is still. -/
abbrev NoStill : Loc → Prop := fun _ => False

theorem goes_mono {P : Program} {main : Bool} {R : World → World → Prop} {D D' : World → World → Array Event → Prop} {Stop Stop' : Goroutine → World → Prop} (hD : ∀ w w' es, D w w' es → D' w w' es) (hS : ∀ g w, Stop g w → Stop' g w) {n : Nat} :
    ∀ {g : Goroutine} {w : World}, Goes P main R D Stop n g w → Goes P main R D' Stop' n g w := by
  induction n with
  | zero => exact fun h w₁ h₁ => hS _ _ (h w₁ h₁)
  | succ n ih =>
    intro g w h
    rcases h with h | ⟨hr, h⟩
    · exact .inl fun w₁ h₁ => hS _ _ (h w₁ h₁)
    · refine .inr ⟨hr, fun w₁ h₁ => ?_⟩
      have := h w₁ h₁
      cases hgo : stepG P main g w₁ with
      | go g' w' es => rw [hgo, goes_go] at this; exact ⟨hD _ _ _ this.1, ih this.2⟩
      | _ => rw [hgo] at this; exact this.elim

section
variable {P : Program} {K : World → Prop} {Still : Loc → Prop} {B B' : Nat} {Mem : Nat → Prop} {Inb : Nat → Option Seat} {h : Nat} {T : Trace} {gs : Array Goroutine} {w : World} {q : Nat → Nat}

theorem evC_mono (hB : B ≤ B') {e : Event} (he : EvC Still B e) : EvC Still B' e := let ⟨a, x, y, z⟩ := he; ⟨a, x, y, Nat.lt_of_lt_of_le z hB⟩
theorem atIn_mono (hB : B ≤ B') {main : Bool} {s : Seat} {g g₂ : Goroutine} (ha : AtIn P main K Still B s g g₂) : AtIn P main K Still B' s g g₂ := by
  obtain ⟨h1, h2, h3, h4, h5, es, hes, hst⟩ := ha
  exact ⟨h1, h2, h3, h4, h5, es, fun e he => evC_mono hB (hes e he), hst⟩
theorem sits_mono (hB : B ≤ B') {main : Bool} {s : Seat} {n : Nat} {g : Goroutine} (hs : Sits P main K Still B s n g) : Sits P main K Still B' s n g := by
  rcases hs with ⟨k, w, e, hg⟩ | ⟨e, g₀, g₂, hp, ha⟩
  · exact .inl ⟨k, w, e, goes_mono (fun _ _ _ x => ⟨x.1, fun e he => evC_mono hB (x.2 e he)⟩) (fun _ _ ⟨g₂, ha⟩ => ⟨g₂, atIn_mono hB ha⟩) hg⟩
  · exact .inr ⟨e, g₀, g₂, hp, atIn_mono hB ha⟩
theorem idle_mono (hB : B ≤ B') {i n : Nat} {g : Goroutine} {s : Option Seat} (hi : Idle P K Still B T i n g s) : Idle P K Still B' T i n g s := by
  cases s with
  | none => exact hi
  | some s => exact sits_mono hB hi
theorem ring_mono (C : Ring P K Still B Mem Inb h T gs w q) (hB : B ≤ B') : Ring P K Still B' Mem Inb h T gs w q :=
  C.mono hB fun i g hi hg => idle_mono hB (C.idle i g hi hg)

/-- What a step of the holder's may do where nothing is leant on. -/
def DW (Still : Loc → Prop) (w w' : World) (es : Array Event) : Prop :=
  (∀ (c cap : Nat) (buf : Array Value) (cl : Bool) (s r : Nat) (tm : Bool), w.heap[c]? = some (Obj.chan cap buf cl s r tm) → w'.heap[c]? = some (Obj.chan cap buf cl s r tm)) ∧ ∀ e ∈ es, EvHd Still w'.heap.size e

theorem dm_dw {w w' : World} {es : Array Event} (hd : DM w w' es) : DW NoStill w w' es := by
  refine ⟨hd.1.chan, fun e he => ?_⟩
  rcases hd.2 e he with ⟨a, wr, s, rfl, ha⟩ | ⟨r, s, rfl, hr⟩ | rfl
  · refine ⟨fun _ _ x => x.elim, by simp, by simp, ?_⟩
    cases wr <;> cases s <;> exact ha
  · refine ⟨fun _ _ x => x.elim, by simp, by simp, ?_⟩
    cases s <;> exact hr
  · exact ⟨fun _ _ x => x.elim, by simp, by simp, trivial⟩

theorem evHd_mono {e : Event} (he : EvHd Still B e) (hB : B ≤ B') : EvHd Still B' e := ⟨he.1, he.2.1, he.2.2.1, MemAct.low_mono hB he.2.2.2⟩

/-- ████ THE HOLDER's WALK, WITHOUT A BOUND ████ -/
theorem hold_walkW {D : World → World → Array Event → Prop} {Stop : Goroutine → World → Prop} (hD : ∀ w w' es, D w w' es → DW Still w w' es) {a : Goroutine} (hG : GoesW P (h == 0) D Stop a w) :
    ∀ {B : Nat} {gs : Array Goroutine} {sl : Option (Nat × Nat)} {T : Trace} {q : Nat → Nat} (ha : gs[h]? = some a) (C : Ring P KT Still B Mem Inb h T gs w q),
    ∃ (N : Nat) (gs' : Array Goroutine) (a' : Goroutine) (w' : World) (sl' : Option (Nat × Nat)) (T' : Trace) (q' : Nat → Nat) (B' : Nat),
      runNT P N (crowd gs w sl) T = (.next (crowd gs' w' sl'), T') ∧ gs'.size = gs.size ∧ gs'[h]? = some a' ∧ Stop a' w' ∧ B ≤ B' ∧ Ring P KT Still B' Mem Inb h T' gs' w' q' := by
  induction hG with
  | @stop g w hs =>
    intro B gs sl T q ha C
    exact ⟨0, gs, g, w, sl, T, q, B, rfl, rfl, ha, hs w.drawn, Nat.le_refl _, C⟩
  | @step a w ng nw ne hr hstep hd hk ih =>
    -- the others' steps first, by their measure
    have inner : ∀ (μ : Nat) {B : Nat} {gs : Array Goroutine} {sl : Option (Nat × Nat)} {T : Trace} {q : Nat → Nat} (d₀ : Nat), sumTo gs.size q = μ → gs[h]? = some a → Ring P KT Still B Mem Inb h T gs (w.at d₀) q →
        ∃ (N : Nat) (gs' : Array Goroutine) (a' : Goroutine) (w' : World) (sl' : Option (Nat × Nat)) (T' : Trace) (q' : Nat → Nat) (B' : Nat),
          runNT P N (crowd gs (w.at d₀) sl) T = (.next (crowd gs' w' sl'), T') ∧ gs'.size = gs.size ∧ gs'[h]? = some a' ∧ Stop a' w' ∧ B ≤ B' ∧ Ring P KT Still B' Mem Inb h T' gs' w' q' := by
      intro μ
      induction μ using Nat.strongRecOn with
      | _ μ ihμ =>
        intro B gs sl T q d₀ hμ ha C
        obtain ⟨i, g, d, sl', hi, hg, hst⟩ := crowd_pick (P := P) (w := w.at d₀) (sl := sl) (C.awake ha (.inl hr)) ⟨h, a, ha, hr⟩
        have Cd : Ring P KT Still B Mem Inb h T gs (w.at d) q := TokCore.at (fun _ _ _ => trivial) C d
        by_cases e : i = h
        · subst e
          obtain rfl : g = a := by rw [ha] at hi; exact (Option.some.inj hi).symm
          obtain ⟨hch, hev⟩ := hD _ _ _ (hd d)
          have Cm : Ring P KT Still (max B (nw d).heap.size) Mem Inb i T gs (w.at d) q := ring_mono Cd (Nat.le_max_left _ _)
          obtain ⟨C', ha'⟩ := Cm.own (a' := ng d) (w' := nw d) (es := ne d) hi ⟨fun _ => trivial, fun j s c hj hc => by
            obtain ⟨cap, k, hck⟩ := C.chans j s c (fun x => x.elim) hj hc
            rw [show (w.at d).heap = (w.at d₀).heap from rfl, hck]
            exact hch _ _ _ _ _ _ _ hck, fun e he => evHd_mono (hev e he) (Nat.le_max_right _ _)⟩
          obtain ⟨N, gs', a', w', sl'', T', q', B', hrun, hsz, haa, hS, hB, CC⟩ := ih d (sl := sl') ha' C'
          refine ⟨N + 1, gs', a', w', sl'', T', q', B', ?_, by rw [hsz]; simp, haa, hS, Nat.le_trans (Nat.le_max_left _ _) hB, CC⟩
          have h1 : stepT P (crowd gs (w.at d₀) sl) = (.next (crowd ((gs.map (woken P g (ng d) (nw d))).setIfInBounds i (ng d)) (nw d) sl'), MemOp.ofEvents i g.frame.fn g.frame.place (ne d)) := by
            rw [hst]; exact runT_crowd_go (sl := sl') hi (hstep d)
          simp only [runNT, h1]
          exact hrun
        · obtain ⟨gs', ops, q', hrt, hsz', hsp, _, _, C', hlt⟩ := TokCore.by_step (sl := sl') (fun t u i => Knows.app u) Cd hi e hg
            (fun x gx hx hgx => by subst hx; rw [ha] at hgx; obtain rfl := Option.some.inj hgx; exact again_of_running (.inl hr) _) (fun hD => hD.elim)
            (fun s g₂ _ _ => ⟨fun hD => hD, fun x gx c hx hgx _ => by subst hx; rw [ha] at hgx; obtain rfl := Option.some.inj hgx; exact offersAt_of_not_blocked (by rw [hr]; simp) _ _⟩)
          obtain ⟨N, gs'', a', w', sl'', T', q'', B', hrun, hsz, haa, hS, hB, CC⟩ := ihμ (sumTo gs'.size q') (by rw [hsz', ← hμ]; exact hlt) (sl := sl') d rfl (by rw [hsp h rfl]; exact ha) C'
          refine ⟨N + 1, gs'', a', w', sl'', T', q'', B', ?_, by rw [hsz, hsz'], haa, hS, hB, CC⟩
          have h1 : stepT P (crowd gs (w.at d₀) sl) = (.next (crowd gs' (w.at d) sl'), ops) := by rw [hst]; exact hrt
          simp only [runNT, h1]
          exact hrun
    intro B gs sl T q ha C
    exact inner _ w.drawn rfl ha C
end
end Go.Proofs.Ytmdcpmfanpopgaa
/- A select of a send and a receive: its meeting with one parked receiver, and with one receiver that comes while it is parked. -/
namespace Go.Proofs.Ytmdcpmfanpopgaa
open Go Go.Conc
open Go.ConcN (sumTo upd sumTo_upd upd_ne upd_same)
set_option linter.unusedSimpArgs false
set_option linter.unusedVariables false

section
variable {P : Program} {gs : Array Goroutine} {w w₁ : World} {sl : Option (Nat × Nat)} {i j k : Nat} {g g₂ gj : Goroutine} {es : Array Event} {c e cap s r : Nat} {buf : Array Value} {tm closed : Bool} {v z zj ze : Value}
  {blocking : Bool} {shape shj : CommShape} {cs cases : Array CommCase}

/-- A SELECT's SEND MEETS THE ONE GOROUTINE PARKED AT A RECEIVE THERE; its other case has no way. -/
theorem crowd_selsend_meets (hi : gs[i]? = some g) (h : stepG P (i == 0) g w = .comm g₂ cases blocking shape w₁ es) (hks : cases[k]? = some (scase c v z))
    (ho : ∀ (m : Nat) (c' : CommCase), m ≠ k → cases[m]? = some c' → NoWays w₁ (gs.setIfInBounds i ph) c') (hc : w₁.heap[c]? = some (.chan cap buf false s s tm))
    (hij : j ≠ i) (hj : gs[j]? = some (parked gj cs shj)) {kj : Nat} (hk : cs[kj]? = some (rcase c zj)) (hp : partners (gs.setIfInBounds i ph) c false = [(j, kj)]) :
    runT P (crowd gs w sl) i = (.next (crowd ((gs.setIfInBounds j (gj.finishComm P cs shj kj v true)).setIfInBounds i (g₂.finishComm P cases shape k undef false)) (w₁.setChan c cap buf false (s + 1) (s + 1) tm) sl),
      MemOp.ofEvents i g.frame.fn g.frame.place es ++ met i j g₂.frame.fn g₂.frame.place gj.frame.fn gj.frame.place c s cap) := by
  have hw : ways w₁ (gs.setIfInBounds i ph) (scase c v z) = [.partner j kj] := by simp [ways, scase, hc, hp]
  have hj' := stand_get (i := i) hij hj
  have hfp := finishPartner_at P (gs.setIfInBounds i ph) hj' (cs := cs) (sh := shj) rfl kj v
  have hgd : (gs.setIfInBounds i ph).getD j default = parked gj cs shj := by rw [Array.getD_eq_getD_getElem?, hj']; rfl
  rw [runT_crowd_comm hi h]
  unfold communicate
  simp only [ready_one hks (by rw [hw]; simp) ho, hw]
  rw [if_neg]
  · simp [choose, Sem.run, Question.forced, bind, Sem.bind, pure, scase, crowd, hc, hfp, hgd, set_stand2, finishComm_parked, rcase, parked, World.setChan, hk, met]
    try rfl
  · rw [Bool.not_eq_true]; exact any_ill (made_of_one hks (made_send v z hc) ho)

/-- A RECEIVE MEETS THE ONE GOROUTINE PARKED AT A SELECT WITH A SEND THERE. -/
theorem crowd_recv_meets_sel (hi : gs[i]? = some g) (h : stepG P (i == 0) g w = .comm g₂ #[rcase c z] blocking shape w₁ es) (hc : w₁.heap[c]? = some (.chan cap #[] closed s s tm))
    (hij : j ≠ i) (hj : gs[j]? = some (parked gj cs shj)) {kj : Nat} (hk : cs[kj]? = some (scase c v zj)) (hp : partners (gs.setIfInBounds i ph) c true = [(j, kj)]) :
    runT P (crowd gs w sl) i = (.next (crowd ((gs.setIfInBounds j (gj.finishComm P cs shj kj undef false)).setIfInBounds i (g₂.finishComm P #[rcase c z] shape 0 v true)) (w₁.setChan c cap #[] closed (s + 1) (s + 1) tm) sl),
      MemOp.ofEvents i g.frame.fn g.frame.place es ++ met j i gj.frame.fn gj.frame.place g₂.frame.fn g₂.frame.place c s cap) := by
  rw [runT_crowd_comm hi h]
  have hj' := stand_get (i := i) hij hj
  have hfp := finishPartner_at P (gs.setIfInBounds i ph) hj' (cs := cs) (sh := shj) rfl kj undef
  have hgd : (gs.setIfInBounds i ph).getD j default = parked gj cs shj := by rw [Array.getD_eq_getD_getElem?, hj']; rfl
  have hov : offeredValue (gs.setIfInBounds i ph) j kj = v := by simp [offeredValue, hj', parked, hk, scase]
  simp [communicate, ways, rcase, hc, hp, choose, Sem.run, Question.forced, bind, Sem.bind, pure, World.setChan, crowd, hfp, hgd, hov, set_stand2, finishComm_parked, scase, parked, hk, met]
  try rfl

/-- The send's case of a select that is parked is offered; nothing else at that channel. -/
theorem offersAt_sel {g : Goroutine} {c e : Nat} {v z ze : Value} {sh : CommShape} (hce : c ≠ e) (r : Nat) : offersAt (parked g #[scase c v z, rcase e ze] sh) r true = if c = r then [0] else [] := by
  by_cases h : c = r <;> simp [offersAt, parked, scase, rcase, h]
theorem offersAt_sel' {g : Goroutine} {c e : Nat} {v z ze : Value} {sh : CommShape} (r : Nat) (h : e ≠ r) : offersAt (parked g #[scase c v z, rcase e ze] sh) r false = [] := by
  simp [offersAt, parked, scase, rcase, h]
theorem again_sel {g : Goroutine} {w : World} {c e cap cap' s s' r r' : Nat} {buf buf' : Array Value} {tm tm' : Bool} {v z ze : Value} {sh : CommShape} (hc : w.heap[c]? = some (.chan cap buf false s r tm)) (he : w.heap[e]? = some (.chan cap' buf' false s' r' tm')) :
    (parked g #[scase c v z, rcase e ze] sh).again w = parked g #[scase c v z, rcase e ze] sh := by
  simp [Goroutine.again, parked, scase, rcase, hc, he]
end
end Go.Proofs.Ytmdcpmfanpopgaa
/- The holder stands at a select of a send on goroutine 0's seat and a receive at which nobody sends: the value comes to goroutine 0; behind it both run. -/
namespace Go.Proofs.Ytmdcpmfanpopgaa
open Go Go.Conc
open Go.ConcN (sumTo upd sumTo_upd upd_ne upd_same)
set_option linter.unusedSimpArgs false
set_option linter.unusedVariables false

/-- Goroutine 0 holds; goroutine a runs beside it, reading still places; all others only leave. -/
def Duo (P : Program) (Still : Loc → Prop) (B a : Nat) (T : Trace) (gs : Array Goroutine) (w : World) (q : Nat → Nat) : Prop :=
  TokCore P KT Still B (fun t => Knows t 0) (fun i => i = 0 ∨ i = a) (fun i => i = a) (fun _ => none) (fun i => i = 0 ∨ i = a) (fun _ => False) T gs w q

theorem give_duo {Still : Loc → Prop} {Mem Loose : Nat → Prop} {B h : Nat} {t : Trace} (hS : ∀ l, Still l → l.isMemory = true) (H : PastH NoStill Mem Loose B h t) (hh : Mem h) (h0 : Mem 0) (fh : FuncId) (ph : String) (fj : FuncId) (pj : String) {c : Nat} (k cap : Nat) (hc : c < B) :
    PastG Still (fun i => i = 0 ∨ i = h) (fun i => i = h) B (Knows (t ++ met h 0 fh ph fj pj c k cap) 0) (t ++ met h 0 fh ph fj pj c k cap) := by
  have G := H.give hh h0 fh ph fj pj k cap hc
  refine ⟨G.clean, fun i a ha hm => ?_, fun i a ha hw hSt g hg => ?_, fun g hg => ?_, G.seen⟩
  · rcases G.known i a ha hm with x | ⟨_, x, _⟩
    · exact .inl x
    · exact x.elim
  · have hm := hS _ hSt
    rcases hg with rfl | rfl
    · rcases G.known i a ha hm with x | ⟨_, x, _⟩
      · exact x
      · exact x.elim
    · obtain ⟨x, hx, hxa⟩ := touch_of ha
      rcases getElem?_append_cases hx with ⟨_, hx'⟩ | ⟨_, hxu⟩
      · rcases H.known i a (by rw [touchAt_of hx']; exact hxa) hm with y | ⟨_, y, _⟩
        · exact y.app _
        · exact y.elim
      · rw [met_mute _ _ _ _ _ _ _ _ _ x hxu] at hxa; cases hxa
  · rcases hg with rfl | rfl
    · exact G.hears 0 h0
    · exact G.hears g hh

section
variable {P : Program} {B : Nat} {Mem : Nat → Prop} {Inb : Nat → Option Seat} {h : Nat} {T : Trace} {gs : Array Goroutine} {w : World} {q : Nat → Nat}

/-- What comes of it. -/
def SelGiven (P : Program) (B h n c k : Nat) (w : World) (s : Seat) (v : Value) (a₂ : Goroutine) (acs : Array CommCase) (m : Machine) (t : Trace) : Prop :=
  ∃ (gs' : Array Goroutine) (g₂ : Goroutine) (d : Nat) (sl' : Option (Nat × Nat)) (q' : Nat → Nat), m = crowd gs' ((w.at d).setChan c 0 #[] false (k + 1) (k + 1) false) sl' ∧ gs'.size = n ∧
    gs'[0]? = some (Go.Conc.served g₂ (commResult s.cases s.shape 0 v true)) ∧ s.home g₂ ∧ gs'[h]? = some (Go.Conc.served a₂ (commResult acs .select 0 undef false)) ∧
    ∀ Still : Loc → Prop, (∀ l, Still l → l.isMemory = true) → Duo P Still B h t gs' ((w.at d).setChan c 0 #[] false (k + 1) (k + 1) false) q'

theorem give_sel {a a₂ : Goroutine} {c e : Nat} {z v z' ze : Value} {ok : Bool} {home : Goroutine → Prop} {es : Array Event} {sl : Option (Nat × Nat)} (hh0 : h ≠ 0) (h0lt : 0 < gs.size) (hj : Inb 0 = some (Seat.one c z ok home)) (hnone : ∀ x, x ≠ 0 → Inb x = none) (hMh : Mem h)
    (ha : gs[h]? = some a) (hrun : a.status = .running) (hsend : ∀ d, stepG P (h == 0) a (w.at d) = .comm a₂ #[scase c v z', rcase e ze] true .select (w.at d) es) (hes : ∀ x ∈ es, EvHd NoStill B x) (C : Ring P KT NoStill B Mem Inb h T gs w q)
    {k : Nat} (hc : w.heap[c]? = some (.chan 0 #[] false k k false)) {cape se re : Nat} {tme : Bool} (he : w.heap[e]? = some (.chan cape #[] false se re tme)) (hce : c ≠ e) :
    ∃ N m' T', runNT P N (crowd gs w sl) T = (.next m', T') ∧ SelGiven P B h gs.size c k w (Seat.one c z ok home) v a₂ #[scase c v z', rcase e ze] m' T' := by
  generalize hs : Seat.one c z ok home = s at hj
  have hk : s.cases[0]? = some (rcase c z) := by rw [← hs]; rfl
  have hcases : s.cases = #[rcase c z] := by rw [← hs]; rfl
  have hsc : s.has c := ⟨0, z, hk⟩
  have hjh : (0 : Nat) ≠ h := fun x => hh0 x.symm
  have hwf := C.wf 0 s hj
  obtain ⟨hMj, hcB'⟩ := C.mem 0 s hj
  have hcB := hcB' c hsc
  have hu : ∀ (m : Nat) (cc : CommCase), m ≠ 0 → s.cases[m]? = some cc → cc.chan ≠ .chan (some c) := by
    intro m cc hm hcc
    rw [hcases] at hcc
    rcases m with _ | m
    · exact absurd rfl hm
    · simp at hcc
  have hKat : ∀ w d, KT w → KT (w.at d) := fun _ _ _ => trivial
  refine runs_until (P := P)
    (Inv := fun μ m t => SelGiven P B h gs.size c k w s v a₂ #[scase c v z', rcase e ze] m t ∨ ∃ gs₁ d sl₁ q₁, ∃ pk : Bool, m = crowd gs₁ (w.at d) sl₁ ∧ gs₁.size = gs.size ∧ gs₁[h]? = some (if pk then parked a₂ #[scase c v z', rcase e ze] .select else a) ∧
      Ring P KT NoStill B Mem Inb h t gs₁ (w.at d) q₁ ∧ (pk = true → 0 < q₁ 0) ∧ μ = sumTo gs₁.size q₁ + (if pk then 0 else 1))
    (fun μ m t hInv => ?_) _ _ T (.inr ⟨gs, w.drawn, sl, q, false, rfl, rfl, ha, C, by simp, rfl⟩)
  rcases hInv with hdone | ⟨gs₁, d, sl₁, q₁, pk, rfl, hsz, ha₁, C₁, hpk, hμ⟩
  · exact .inl hdone
  refine .inr ?_
  obtain ⟨gj, hgj⟩ : ∃ gj, gs₁[0]? = some gj := ⟨gs₁[0]'(by omega), Array.getElem?_eq_getElem (by omega)⟩
  have hlth : h < gs₁.size := (Array.getElem?_eq_some_iff.1 ha₁).1
  have hSj : Sits P (0 == 0) KT NoStill B s (q₁ 0) gj := by have := C₁.idle 0 gj hjh hgj; rwa [hj] at this
  have hsome : ∃ (i : Nat) (g : Goroutine), gs₁[i]? = some g ∧ g.status = .running := by
    cases pk with
    | false => exact ⟨h, a, ha₁, hrun⟩
    | true => exact ⟨0, gj, hgj, (Sits.status C₁.keep hSj).elim (·.1) (fun z => by have := hpk rfl; omega)⟩
  obtain ⟨i, g, d', sl', hi, hg, hst⟩ := crowd_pick (P := P) (w := w.at d) (sl := sl₁) (C₁.awake ha₁ (by cases pk <;> simp [hrun, parked])) hsome
  rw [at_at'] at hst
  have Cd : Ring P KT NoStill B Mem Inb h t gs₁ (w.at d') q₁ := TokCore.at hKat C₁ d'
  have hcd : (w.at d').heap[c]? = some (.chan 0 #[] false k k false) := hc
  have hed : (w.at d').heap[e]? = some (.chan cape #[] false se re tme) := he
  -- BEHIND EITHER MEETING
  have fin : ∀ (gs' : Array Goroutine) (ops₀ : Array MemOp) (g₂ : Goroutine), gs'.size = gs₁.size → (∀ x, x ≠ h → x ≠ 0 → gs'[x]? = gs₁[x]?) → gs'[h]? = some (Go.Conc.served a₂ (commResult #[scase c v z', rcase e ze] .select 0 undef false)) → gs'[0]? = some (Go.Conc.served g₂ (commResult s.cases s.shape 0 v true)) → s.home g₂ →
      PastH NoStill Mem (fun g => g ≠ h ∧ (Inb g).isSome) B h (t ++ ops₀) → (∀ x, Deaf (t ++ ops₀) x = Deaf t x) →
      SelGiven P B h gs.size c k w s v a₂ #[scase c v z', rcase e ze] (crowd gs' ((w.at d').setChan c 0 #[] false (k + 1) (k + 1) false) sl') (t ++ (ops₀ ++ met h 0 a₂.frame.fn a₂.frame.place g₂.frame.fn g₂.frame.place c k 0)) := by
    intro gs' ops₀ g₂ hsz' hoth hH hJ hhome p1 hD0
    have hDeaf : ∀ x, Deaf (t ++ (ops₀ ++ met h 0 a₂.frame.fn a₂.frame.place g₂.frame.fn g₂.frame.place c k 0)) x = Deaf t x := fun x => by rw [← Array.append_assoc, Deaf_quiet (met_quiet _ _ _ _ _ _ _ _ _ x), hD0]
    refine ⟨gs', g₂, d', sl', q₁, rfl, hsz'.trans hsz, hJ, hhome, hH, fun Still hS => ?_⟩
    have p2 := give_duo hS p1 hMh hMj a₂.frame.fn a₂.frame.place g₂.frame.fn g₂.frame.place k 0 hcB
    rw [Array.append_assoc] at p2
    refine ⟨fun x y hx hy => ?_, fun _ _ _ _ e => (by cases e), fun _ _ e => (by cases e), fun _ _ hx => hx.elim, fun _ _ _ _ _ e => (by cases e), fun x hx => by rw [hDeaf]; exact C₁.above x (by omega), fun _ _ e => (by cases e), fun i hM => .inr hM, fun _ _ _ e => (by cases e), p2, trivial⟩
    have hx0 : x ≠ 0 := fun z => hx (.inl z)
    have hxh : x ≠ h := fun z => hx (.inr z)
    rw [hoth x hxh hx0] at hy
    have hid := C₁.idle x y hxh hy
    rw [hnone x hx0] at hid
    exact ⟨hid.1, by rw [hDeaf]; exact hid.2⟩
  have hμpos : 0 < μ := by
    cases pk with
    | false => simp at hμ; omega
    | true =>
      have h1 := hpk rfl
      have h2 : q₁ 0 ≤ sumTo gs₁.size q₁ := Go.ConcN.le_sumTo (f := q₁) (by omega)
      simp at hμ; omega
  -- nobody sends at e
  have hnoe : ∀ i, partners (gs₁.setIfInBounds i ph) e true = [] ∨ i ≠ h := by
    intro i
    by_cases ei : i = h
    · left
      subst ei
      refine partners_nil fun x y hy => ?_
      rcases getElem?_stand gs₁ i x y hy with ⟨_, rfl⟩ | ⟨hx, hy'⟩
      · exact offersAt_ph _ _
      · exact TokCore.noSend Cd hx hy' _
    · exact .inr ei
  by_cases e1 : i = h
  · -- THE HOLDER's STEP
    subst e1
    cases pk with
    | true => rw [ha₁] at hi; obtain rfl := Option.some.inj hi; cases hg
    | false =>
      obtain rfl : g = a := by rw [ha₁] at hi; exact (Option.some.inj hi).symm
      obtain ⟨hops, hss, hl, hdf⟩ := evHd_ops (i := i) (fn := g.frame.fn) (pos := g.frame.place) hes
      have hnoE : NoWays (w.at d') (gs₁.setIfInBounds i ph) (rcase e ze) := ways_recv_none hed ((hnoe i).resolve_right fun z => z rfl)
      have hoff : ∀ (x : Nat) (y : Goroutine), x ≠ 0 → (gs₁.setIfInBounds i ph)[x]? = some y → offersAt y c false = [] := by
        intro x y hxj hy
        rcases getElem?_stand gs₁ i x y hy with ⟨_, rfl⟩ | ⟨hx, hy'⟩
        · exact offersAt_ph _ _
        · exact TokCore.noRecvAt Cd hx hy' fun s' hs' hc' => hxj (C₁.inj x 0 s' s c hs' hj hc' hsc)
      rcases hSj with ⟨kk, w₀, hq, hG⟩ | ⟨hq0, g₀, g₂, rfl, hat⟩
      · -- goroutine 0 is on its way: the holder is parked at its select
        have hjr : gj.status = .running := (Sits.status C₁.keep (.inl ⟨kk, w₀, hq, hG⟩)).elim (·.1) (fun z => by omega)
        have hp : partners (gs₁.setIfInBounds i ph) c false = [] := partners_nil fun x y hy => by
          by_cases hxj : x = 0
          · subst hxj
            rw [stand_get hjh hgj] at hy
            obtain rfl := Option.some.inj hy
            exact offersAt_of_not_blocked (by rw [hjr]; simp) _ _
          · exact hoff x y hxj hy
        have hw : ∀ cc ∈ #[scase c v z', rcase e ze], NoWays (w.at d') (gs₁.setIfInBounds i ph) cc := by
          intro cc hcc
          simp only [List.mem_toArray, List.mem_cons, List.not_mem_nil, or_false] at hcc
          rcases hcc with rfl | rfl
          · exact ways_send_none hcd (Nat.le_refl _) hp
          · exact hnoE
        exact ⟨_, _, sumTo gs₁.size q₁ + 0, by rw [hst]; exact crowd_waits (sl := sl') hi (hsend d') hw, by simp at hμ; omega, .inr ⟨_, d', sl', q₁, true, rfl, by simpa using hsz, Array.getElem?_setIfInBounds_self_of_lt hlth, Cd.setH _ hes, fun _ => by omega, by simp⟩⟩
      · -- goroutine 0 is parked: the meeting
        have hp : partners (gs₁.setIfInBounds i ph) c false = [(0, 0)] := by
          rw [partners_one (stand_get hjh hgj) fun x y hxj hy => hoff x y hxj hy, offersAt_parked_at hk hu]
          rfl
        have ho : ∀ (m : Nat) (c' : CommCase), m ≠ 0 → #[scase c v z', rcase e ze][m]? = some c' → NoWays (w.at d') (gs₁.setIfInBounds i ph) c' := by
          intro m c' hm hc'
          rcases m with _ | _ | m
          · exact absurd rfl hm
          · simp at hc'; subst hc'; exact hnoE
          · simp at hc'
        refine ⟨_, _, 0, by rw [hst]; exact crowd_selsend_meets (sl := sl') (k := 0) hi (hsend d') rfl ho hcd hjh hgj hk hp, hμpos, .inl ?_⟩
        exact fin _ _ g₂ (by simp) (fun x hx hxj => by rw [Array.getElem?_setIfInBounds_ne (fun z => hx z.symm), Array.getElem?_setIfInBounds_ne (fun z => hxj z.symm)]) (by rw [Array.getElem?_setIfInBounds_self_of_lt (by simpa using hlth), finishComm_served]; rfl)
          (by rw [Array.getElem?_setIfInBounds_ne (fun z => hjh z.symm), Array.getElem?_setIfInBounds_self_of_lt (by omega), finishComm_served]; rfl) hat.2.2.2.2.1 (PastH.appH C₁.past hops hss (hdf t) hl)
          (fun x => by
            by_cases ex : x = i
            · subst ex; exact hdf t
            · exact Deaf_other t (fun z => ex z.symm) _ hops)
  · by_cases ej : i = 0 ∧ pk = true ∧ ∃ g₂, AtIn P (i == 0) KT NoStill B s g g₂
    · -- GOROUTINE 0 COMES TO ITS RECEIVE AND MEETS THE PARKED HOLDER
      obtain ⟨rfl, rfl, g₂, hat⟩ := ej
      obtain ⟨_, _, _, _, hhome, esj, hesj, hstp⟩ := hat
      obtain ⟨hops, hr, hl, hd⟩ := evC_ops (i := 0) (fn := g.frame.fn) (pos := g.frame.place) hesj
      have hp : partners (gs₁.setIfInBounds 0 ph) c true = [(h, 0)] := by
        rw [partners_one (stand_get (Ne.symm hjh) ha₁) fun x y hxh hy => by
          rcases getElem?_stand gs₁ 0 x y hy with ⟨_, rfl⟩ | ⟨_, hy'⟩
          · exact offersAt_ph _ _
          · exact TokCore.noSend Cd hxh hy' _]
        simp only [if_true]
        rw [offersAt_sel hce]
        simp
      have hstp' := hstp (w.at d') trivial
      rw [hcases] at hstp'
      refine ⟨_, _, 0, by rw [hst]; exact crowd_recv_meets_sel (sl := sl') hi hstp' hcd (Ne.symm hjh) ha₁ (kj := 0) rfl hp, hμpos, .inl ?_⟩
      exact fin _ _ g₂ (by simp) (fun x hx hxj => by rw [Array.getElem?_setIfInBounds_ne (fun z => hxj z.symm), Array.getElem?_setIfInBounds_ne (fun z => hx z.symm)])
        (by rw [Array.getElem?_setIfInBounds_ne hjh, Array.getElem?_setIfInBounds_self_of_lt hlth, finishComm_served]; rfl) (by rw [Array.getElem?_setIfInBounds_self_of_lt (by simp; omega), finishComm_served, hcases]) hhome
        (PastH.appRead C₁.past hMj ⟨hjh, by rw [hj]; rfl⟩ hops hr (hd t) hl)
        (fun x => by
          by_cases ex : x = 0
          · subst ex; exact hd t
          · exact Deaf_other t (fun z => ex z.symm) _ hops)
    · -- A BYSTANDER's STEP (goroutine 0's own way to its seat among them)
      obtain ⟨gs', ops, q', hrt, hsz', hsp, hqo, hq0, C', hlt⟩ := TokCore.by_step (sl := sl') (fun t u i => Knows.app u) Cd hi e1 hg
        (fun x gx hx hgx => by
          subst hx; rw [ha₁] at hgx; obtain rfl := Option.some.inj hgx
          cases pk with
          | false => exact again_of_running (.inl hrun) _
          | true => exact again_sel hcd hed) (fun hD => hD.elim)
        (fun s' g₂ hs' hat => ⟨fun hD => hD, fun x gx c' hx hgx hc' => by
          subst hx; rw [ha₁] at hgx; obtain rfl := Option.some.inj hgx
          cases pk with
          | false => exact offersAt_of_not_blocked (by simp [hrun]) _ _
          | true =>
            simp only [if_true]
            rw [offersAt_sel hce, if_neg]
            intro ec
            have hij : i = 0 := C₁.inj i 0 s' s c hs' hj (ec ▸ hc') hsc
            subst hij
            rw [hj] at hs'
            obtain rfl := Option.some.inj hs'
            exact ej ⟨rfl, rfl, g₂, hat⟩⟩)
      refine ⟨_, _, sumTo gs'.size q' + (if pk then 0 else 1), by rw [hst]; exact hrt, by rw [hsz']; omega, .inr ⟨gs', d', sl', q', pk, rfl, hsz'.trans hsz, by rw [hsp h rfl]; exact ha₁, C', fun hp => ?_, rfl⟩⟩
      subst hp
      by_cases hij : (0 : Nat) = i
      · subst hij
        rcases Nat.eq_zero_or_pos (q' 0) with h0 | h0
        · obtain ⟨g₂, hat⟩ := hq0 s hj h0
          exact absurd ⟨rfl, rfl, g₂, hat⟩ ej
        · exact h0
      · rw [hqo 0 hij]; exact hpk rfl
end
end Go.Proofs.Ytmdcpmfanpopgaa
/- Goroutine 0 walks to its next receive while goroutine a, reading still places, walks to the close of that channel: goroutine 0 is served with 'closed', a only leaves. -/
namespace Go.Proofs.Ytmdcpmfanpopgaa
open Go Go.Conc
open Go.ConcN (sumTo upd sumTo_upd upd_ne upd_same)
set_option linter.unusedSimpArgs false
set_option linter.unusedVariables false

/-- What the others may have done to goroutine 0's world: draws; the close of channel c. -/
def RC (c : Nat) (w w₁ : World) : Prop := ∃ d, w₁ = w.at d ∨ ∃ cap k, w₁ = (w.at d).setChan c cap #[] true k k false
theorem rc_refl (c : Nat) (w : World) : RC c w w := ⟨w.drawn, .inl rfl⟩
theorem rc_at (c : Nat) (w : World) (d : Nat) : RC c w (w.at d) := ⟨d, .inl rfl⟩
theorem rc_trans (c : Nat) (a b d : World) (h : RC c a b) (h' : RC c b d) : RC c a d := by
  obtain ⟨x, h⟩ := h
  obtain ⟨y, h'⟩ := h'
  rcases h with rfl | ⟨cap, k, rfl⟩ <;> rcases h' with rfl | ⟨cap', k', rfl⟩
  · exact ⟨y, .inl rfl⟩
  · exact ⟨y, .inr ⟨cap', k', rfl⟩⟩
  · exact ⟨y, .inr ⟨cap, k, rfl⟩⟩
  · refine ⟨y, .inr ⟨cap', k', ?_⟩⟩
    rw [setChan_at]
    exact setChan_setChan _ _ _ _ _ _ _ _ _ _ _ _ _ _

/-- Operations of one goroutine that touch no memory. -/
theorem PastG.appObj {Still : Loc → Prop} {Mem Loose : Nat → Prop} {B : Nat} {K K' : Nat → Prop} {t u : Trace} {g : Nat} (hS : ∀ l, Still l → l.isMemory = true) (H : PastG Still Mem Loose B K t) (hK : ∀ i, K i → K' i) (hu : ∀ op ∈ u, op.g = g)
    (hn : ∀ op ∈ u, ∀ b, op.act.touch? = some b → b.loc.isMemory = false) (hd : Mem g → Deaf (t ++ u) g = Deaf t g) (hl : ∀ op ∈ u, op.act.low B) : PastG Still Mem Loose B K' (t ++ u) := by
  refine ⟨fun said => noRace_append (H.clean said) hu fun i a ha op hop b hb hc => ?_, fun i a ha hm => ?_, fun i a ha hw hSt g' hg' => ?_, H.old_hears hu hd, seen_app H.seen hl⟩
  · have h1 := hn op hop b hb
    have h2 := hc.2.1
    rw [hc.1, h1] at h2
    cases h2
  · obtain ⟨x, hx, hxa⟩ := touch_of ha
    rcases getElem?_append_cases hx with ⟨_, hx'⟩ | ⟨_, hxu⟩
    · exact H.old_known hK hx' hxa hm
    · rw [hn x hxu a hxa] at hm; cases hm
  · obtain ⟨x, hx, hxa⟩ := touch_of ha
    rcases getElem?_append_cases hx with ⟨_, hx'⟩ | ⟨_, hxu⟩
    · exact (H.wrote i a (by rw [touchAt_of hx']; exact hxa) hw hSt g' hg').app u
    · have := hS _ hSt
      rw [hn x hxu a hxa] at this; cases this

/-- Each touch is known to goroutine 0, or before operation m. -/
def Known0 (m : Nat) (t : Trace) : Prop := ∀ i x, touchAt t i = some x → x.loc.isMemory = true → Knows t 0 i ∨ Before t i m
theorem Known0.app {m : Nat} {t : Trace} (h : Known0 m t) {u : Trace} (hu : ∀ op ∈ u, op.g = 0 ∨ ∀ b, op.act.touch? = some b → b.loc.isMemory = false) : Known0 m (t ++ u) := by
  intro i x hx hm
  obtain ⟨y, hy, hya⟩ := touch_of hx
  rcases getElem?_append_cases hy with ⟨_, hy'⟩ | ⟨_, hyu⟩
  · exact (h i x (by rw [touchAt_of hy']; exact hya) hm).imp (·.app u) (·.app u)
  · rcases hu y hyu with h0 | hn
    · have := knows_own hy
      rw [h0] at this
      exact .inl this
    · rw [hn x hya] at hm; cases hm

/-- THE RECEIVE THAT FINDS THE CHANNEL CLOSED: all is known to goroutine 0. -/
theorem take_closed {Still : Loc → Prop} {Loose : Nat → Prop} {B c m : Nat} {t : Trace} (H : PastG Still (fun i => i = 0) Loose B (Knows t 0) t) (E : Known0 m t) (ca : ClosedAt c m t) (fj : FuncId) (pj : String) (hc : c < B) :
    PastG Still (fun i => i = 0) (fun _ => False) B (Knows (t ++ #[{ g := 0, fn := fj, pos := pj, act := .recvClosed c }]) 0) (t ++ #[{ g := 0, fn := fj, pos := pj, act := .recvClosed c }]) := by
  obtain ⟨ha, hhm⟩ := ca
  generalize hu : (#[{ g := 0, fn := fj, pos := pj, act := .recvClosed c }] : Trace) = u
  obtain ⟨z, hz, _⟩ := Option.map_eq_some_iff.1 (show (t[m]?).map (·.act) = some (.close c) from ha)
  have hlt := lt_size_of_getElem? hz
  have hn : ∀ op ∈ u, op.act.touch? = none := by
    intro op hop
    subst hu
    simp only [List.mem_toArray, List.mem_cons, List.not_mem_nil, or_false] at hop
    subst hop; rfl
  have hq : ∀ g, ∀ op ∈ u, ∀ d, deafStep g d op = d := by
    intro g op hop d
    subst hu
    simp only [List.mem_toArray, List.mem_cons, List.not_mem_nil, or_false] at hop
    subst hop; rfl
  have e0 : (t ++ u)[t.size]? = some { g := 0, fn := fj, pos := pj, act := .recvClosed c } := by subst hu; simp
  have hhm' : (t ++ u).heard m := by
    obtain ⟨g', hg', hd'⟩ := hhm
    exact ⟨g', by rw [g?_old hlt]; exact hg', by rw [deaf_old (Nat.le_of_lt hlt)]; exact hd'⟩
  have edge : HappensBefore (t ++ u) m t.size :=
    Relation.TransGen.single (.inr ⟨.closed (by simpa [Trace.act?, getElem?_append_old hlt] using ha) (act?_of e0), hhm', ⟨0, g?_of e0, by rw [deaf_old (Nat.le_refl _)]; exact H.hears 0 rfl⟩⟩)
  have known : ∀ i x, touchAt (t ++ u) i = some x → x.loc.isMemory = true → Knows (t ++ u) 0 i := by
    intro i x hx hm
    obtain ⟨y, hy, hya⟩ := touch_of hx
    rcases getElem?_append_cases hy with ⟨_, hy'⟩ | ⟨_, hyu⟩
    · rcases E i x (by rw [touchAt_of hy']; exact hya) hm with hk | hb
      · exact hk.app u
      · exact ⟨t.size, _, e0, rfl, .inr ((hb.app u).hb edge)⟩
    · rw [hn y hyu] at hya; cases hya
  refine ⟨fun said => noRace_appendMute (H.clean said) hn, fun i x hx hm => .inl (known i x hx hm), fun i x hx hw hSt g hg => ?_, fun g hg => (Deaf_quiet (hq g)).trans (H.hears g hg), seen_app H.seen fun op hop => ?_⟩
  · obtain ⟨y, hy, hya⟩ := touch_of hx
    rcases getElem?_append_cases hy with ⟨_, hy'⟩ | ⟨_, hyu⟩
    · exact (H.wrote i x (by rw [touchAt_of hy']; exact hya) hw hSt g hg).app u
    · rw [hn y hyu] at hya; cases hya
  · subst hu
    simp only [List.mem_toArray, List.mem_cons, List.not_mem_nil, or_false] at hop
    subst hop; exact hc

section
variable {P : Program} {Still : Loc → Prop} {B a : Nat} {T : Trace} {gs : Array Goroutine} {w : World} {q : Nat → Nat} {Mem Lo Sp : Nat → Prop}

abbrev Core (P : Program) (Still : Loc → Prop) (B : Nat) (Mem Lo Sp : Nat → Prop) (T : Trace) (gs : Array Goroutine) (w : World) (q : Nat → Nat) : Prop :=
  TokCore P KT Still B (fun t => Knows t 0) Mem Lo (fun _ => none) Sp (fun _ => False) T gs w q

/-- GOROUTINE 0's OWN STEP: the others' records stand. -/
theorem core_own0 (C : Core P Still B Mem Lo Sp T gs w q) (h0 : Sp 0) {g g' : Goroutine} {w' : World} {es : Array Event} (hg : gs[0]? = some g) (hSp : ∀ x y, Sp x → x ≠ 0 → gs[x]? = some y → y.again w' = y) (hes : ∀ e ∈ es, EvHd Still B e) :
    Core P Still B Mem Lo Sp (T ++ MemOp.ofEvents 0 g.frame.fn g.frame.place es) ((gs.map (woken P g g' w')).setIfInBounds 0 g') w' q ∧ ((gs.map (woken P g g' w')).setIfInBounds 0 g')[0]? = some g' ∧ ∀ x, x ≠ 0 → ((gs.map (woken P g g' w')).setIfInBounds 0 g')[x]? = gs[x]? := by
  have hlt : 0 < gs.size := (Array.getElem?_eq_some_iff.1 hg).1
  obtain ⟨hops, hs, hl, hdf⟩ := evHd_ops (i := 0) (fn := g.frame.fn) (pos := g.frame.place) hes
  have hoth : ∀ x, x ≠ 0 → ((gs.map (woken P g g' w')).setIfInBounds 0 g')[x]? = gs[x]? := by
    intro x hx
    rw [Array.getElem?_setIfInBounds_ne (fun e => hx e.symm), Array.getElem?_map]
    cases e : gs[x]? with
    | none => rfl
    | some y =>
      have : woken P g g' w' y = y := woken_of_again (by
        by_cases hs : Sp x
        · exact hSp x y hs hx e
        · exact again_of_running (by have := C.idle x y hs e; exact this.2.status) _)
      simp [this]
  refine ⟨⟨fun x y hx hy => ?_, fun _ _ _ _ e => (by cases e), fun _ _ e => (by cases e), fun _ _ z => z.elim, fun _ _ _ _ _ e => (by cases e), fun j hj => ?_, fun _ _ e => (by cases e), C.nomem, fun _ _ _ e => (by cases e), PastH.appH C.past hops hs (hdf T) hl, trivial⟩, Array.getElem?_setIfInBounds_self_of_lt (by simpa using hlt), hoth⟩
  · have hx0 : x ≠ 0 := fun e => hx (e ▸ h0)
    rw [hoth x hx0] at hy
    have hi := C.idle x y hx hy
    exact ⟨hi.1, by rw [Deaf_other T (fun z => hx0 z.symm) _ hops]; exact hi.2⟩
  · simp only [Array.size_setIfInBounds, Array.size_map] at hj
    rw [Deaf_other T (g' := 0) (by omega) _ hops]
    exact C.above j hj

/-- The record of one of whom the frame speaks itself is laid anew, and operations of its that are well. -/
theorem core_put (C : Core P Still B Mem Lo Sp T gs w q) {x₀ : Nat} (hx₀ : Sp x₀) {gs' : Array Goroutine} {ops : Array MemOp} (hsz : gs'.size = gs.size) (hoth : ∀ x, ¬ Sp x → gs'[x]? = gs[x]?) (hops : ∀ op ∈ ops, op.g = x₀) (w' : World)
    (hpast : PastG Still Mem Lo B (Knows (T ++ ops) 0) (T ++ ops)) (hlt : x₀ < gs.size) : Core P Still B Mem Lo Sp (T ++ ops) gs' w' q := by
  refine ⟨fun x y hx hy => ?_, fun _ _ _ _ e => (by cases e), fun _ _ e => (by cases e), fun _ _ z => z.elim, fun _ _ _ _ _ e => (by cases e), fun j hj => ?_, fun _ _ e => (by cases e), C.nomem, fun _ _ _ e => (by cases e), hpast, trivial⟩
  · rw [hoth x hx] at hy
    have hi := C.idle x y hx hy
    exact ⟨hi.1, by rw [Deaf_other T (g' := x₀) (fun z => hx (by rw [← z]; exact hx₀)) _ hops]; exact hi.2⟩
  · rw [Deaf_other T (g' := x₀) (by omega) _ hops]
    exact C.above j (by omega)

theorem core_at (C : Core P Still B Mem Lo Sp T gs w q) (w' : World) : Core P Still B Mem Lo Sp T gs w' q :=
  ⟨C.idle, fun _ _ _ _ e => (by cases e), fun _ _ e => (by cases e), fun _ _ z => z.elim, fun _ _ _ _ _ e => (by cases e), C.above, fun _ _ e => (by cases e), C.nomem, fun _ _ _ e => (by cases e), C.past, trivial⟩

theorem core_awake (C : Core P Still B Mem Lo Sp T gs w q) (h : ∀ x y, Sp x → gs[x]? = some y → y.status = .running ∨ y.status = .blocked) : ∀ g ∈ gs, awake g := by
  intro g hg
  obtain ⟨i, hi, rfl⟩ := Array.mem_iff_getElem.1 hg
  by_cases e : Sp i
  · exact awake_of ((h i _ e (Array.getElem?_eq_getElem hi)).elim .inl fun x => .inr (.inl x))
  · have hid := C.idle i _ e (Array.getElem?_eq_getElem hi)
    exact awake_of (hid.2.status.elim .inl fun x => .inr (.inr x))
end

/-- What goroutine 0 comes to. -/
def Served0 (P : Program) (B n c : Nat) (z : Value) (ok : Bool) (home : Goroutine → Prop) (F : World → Prop) (m : Machine) (t : Trace) : Prop :=
  ∃ gs' g₂ w' sl' q', m = crowd gs' w' sl' ∧ gs'.size = n ∧ gs'[0]? = some (Go.Conc.served g₂ (recvd ok z false)) ∧ home g₂ ∧ F w' ∧ Leavers P t gs' q' ∧ Past (fun _ => False) B t

/-- ████ -/
theorem tail {P : Program} {Still : Loc → Prop} {B a c : Nat} {z : Value} {ok : Bool} {home : Goroutine → Prop} {KA F : World → Prop} {DD : World → World → Array Event → Prop} {nq : Nat}
    (ha0 : a ≠ 0) (hcB : c < B) (hS : ∀ l, Still l → l.isMemory = true) (hSc : Still (.obj c)) (hKAat : ∀ w d, KA w → KA (w.at d)) (hFat : ∀ w d, F w → F (w.at d)) (hFc : ∀ w cap k, F w → F (w.setChan c cap #[] true k k false))
    (hDD : ∀ w w' es, DD w w' es → (KA w → KA w') ∧ w'.heap[c]? = w.heap[c]? ∧ ∀ e ∈ es, EvHd Still B e) {nM nA n : Nat} {gM gA : Goroutine} {gs : Array Goroutine} {w : World} {sl : Option (Nat × Nat)} {T : Trace} {q : Nat → Nat}
    (hn : gs.size = n) (hM : gs[0]? = some gM) (hA : gs[a]? = some gA) (gMo : Goes P true (RC c) DD (fun g w => (∃ g₂, AtIn P true KT Still B (Seat.one c z ok home) g g₂) ∧ F w) nM gM w)
    (gAo : Goes P false (RK KA) (DS Still B) (AtShut P false c fun g' => QuitsD P nq 0 g') nA gA w) (hKA : KA w) {cap k : Nat} (hc : w.heap[c]? = some (.chan cap #[] false k k false)) (C : Duo P Still B a T gs w q) :
    ∃ N m' T', runNT P N (crowd gs w sl) T = (.next m', T') ∧ Served0 P B n c z ok home F m' T' := by
  refine runs_until (P := P)
    (Inv := fun μ m t => Served0 P B n c z ok home F m t ∨
      (∃ gs w sl q nM nA gM gA k cap, m = crowd gs w sl ∧ gs.size = n ∧ gs[0]? = some gM ∧ gs[a]? = some gA ∧ Goes P true (RC c) DD (fun g w => (∃ g₂, AtIn P true KT Still B (Seat.one c z ok home) g g₂) ∧ F w) nM gM w ∧
        Goes P false (RK KA) (DS Still B) (AtShut P false c fun g' => QuitsD P nq 0 g') nA gA w ∧ KA w ∧ w.heap[c]? = some (.chan cap #[] false k k false) ∧ Duo P Still B a t gs w q ∧ μ = nM + nA + nq + 4 + sumTo n q) ∨
      (∃ gs w sl q nA gA g₀ g₂ k cap, m = crowd gs w sl ∧ gs.size = n ∧ gs[0]? = some (parked g₂ #[rcase c z] (.recv ok)) ∧ AtIn P true KT Still B (Seat.one c z ok home) g₀ g₂ ∧ F w ∧ gs[a]? = some gA ∧
        Goes P false (RK KA) (DS Still B) (AtShut P false c fun g' => QuitsD P nq 0 g') nA gA w ∧ KA w ∧ w.heap[c]? = some (.chan cap #[] false k k false) ∧ Duo P Still B a t gs w q ∧ μ = nA + nq + 3 + sumTo n q) ∨
      (∃ gs w sl q nM gM k cap mm, m = crowd gs w sl ∧ gs.size = n ∧ gs[0]? = some gM ∧ Goes P true (RC c) DD (fun g w => (∃ g₂, AtIn P true KT Still B (Seat.one c z ok home) g g₂) ∧ F w) nM gM w ∧ w.heap[c]? = some (.chan cap #[] true k k false) ∧
        Core P Still B (fun i => i = 0) (fun i => i = a) (fun i => i = 0) t gs w q ∧ ClosedAt c mm t ∧ Known0 mm t ∧ μ = nM + 1 + sumTo n q))
    (fun μ m t hInv => ?_) _ _ T (.inr (.inl ⟨gs, w, sl, q, nM, nA, gM, gA, k, cap, rfl, hn, hM, hA, gMo, gAo, hKA, hc, C, rfl⟩))
  clear C hc hKA gMo gAo hM hA hn
  have hstopM : ∀ {n : Nat} {g : Goroutine} {w : World}, Goes P true (RC c) DD (fun g w => (∃ g₂, AtIn P true KT Still B (Seat.one c z ok home) g g₂) ∧ F w) n g w → g.status = .running := by
    intro n g w h
    cases n with
    | zero => exact (h w (rc_refl c w)).1.choose_spec.1
    | succ n => exact h.elim (fun x => (x w (rc_refl c w)).1.choose_spec.1) (·.1)
  have hstopA : ∀ {n : Nat} {g : Goroutine} {w : World}, KA w → Goes P false (RK KA) (DS Still B) (AtShut P false c fun g' => QuitsD P nq 0 g') n g w → g.status = .running := by
    intro n g w hK h
    cases n with
    | zero => exact (h w hK).1
    | succ n => exact h.elim (fun x => (x w hK).1) (·.1)
  -- A's part of a step, whoever goroutine 0 is (running, or parked at the open channel)
  have stepA : ∀ (gs : Array Goroutine) (w : World) (sl : Option (Nat × Nat)) (q : Nat → Nat) (nA : Nat) (gA g0 : Goroutine) (k cap : Nat), gs.size = n → gs[0]? = some g0 → gs[a]? = some gA → (g0.again w = g0) → Goes P false (RK KA) (DS Still B) (AtShut P false c fun g' => QuitsD P nq 0 g') nA gA w → KA w →
      w.heap[c]? = some (.chan cap #[] false k k false) → Duo P Still B a t gs w q →
      (∃ nA' gA' gs' ops, nA = nA' + 1 ∧ runT P (crowd gs w sl) a = (.next (crowd gs' w sl), ops) ∧ gs'.size = n ∧ gs'[0]? = some g0 ∧ gs'[a]? = some gA' ∧ Goes P false (RK KA) (DS Still B) (AtShut P false c fun g' => QuitsD P nq 0 g') nA' gA' w ∧ Duo P Still B a (t ++ ops) gs' w q) ∨
      (∃ gs' ops mm, runT P (crowd gs w sl) a = (.next (crowd gs' (w.setChan c cap #[] true k k false) sl), ops) ∧ gs'.size = n ∧ gs'[0]? = some (g0.again (w.setChan c cap #[] true k k false)) ∧
        Core P Still B (fun i => i = 0) (fun i => i = a) (fun i => i = 0) (t ++ ops) gs' (w.setChan c cap #[] true k k false) (upd q a nq) ∧ ClosedAt c mm (t ++ ops) ∧ Known0 mm (t ++ ops)) := by
    intro gs w sl q nA gA g0 k cap hsz h0 hA hag gAo hKA hc C
    have hlta : a < gs.size := (Array.getElem?_eq_some_iff.1 hA).1
    have ham : (a == 0) = false := by simpa using ha0
    have hcase : AtShut P false c (fun g' => QuitsD P nq 0 g') gA w ∨ ∃ nA' gA' es, nA = nA' + 1 ∧ stepG P false gA w = .go gA' w es ∧ (∀ e ∈ es, EvC Still B e) ∧ Goes P false (RK KA) (DS Still B) (AtShut P false c fun g' => QuitsD P nq 0 g') nA' gA' w := by
      cases nA with
      | zero => exact .inl (gAo w hKA)
      | succ nA' =>
        rcases gAo with hs | ⟨_, hs⟩
        · exact .inl (hs w hKA)
        · have := hs w hKA
          cases hgo : stepG P false gA w with
          | go gA' w' es =>
            rw [hgo, goes_go] at this
            obtain ⟨⟨rfl, hes⟩, hG⟩ := this
            exact .inr ⟨nA', gA', es, rfl, rfl, hes, hG⟩
          | _ => rw [hgo] at this; exact this.elim
    rcases hcase with ⟨hrun, hmw, g', hg', hcl, hQ⟩ | ⟨nA', gA', es, rfl, hgo, hes, hG⟩
    · -- the close
      right
      have hstep : stepG P (a == 0) gA w = .go g' (w.setChan c cap #[] true k k false) (closeEvents c) := by rw [ham]; exact hcl cap k hc w.drawn
      have hrt := runT_crowd_go (P := P) (sl := sl) hA hstep
      rw [closeOps] at hrt
      have hnotobj : ∀ op ∈ (#[{ g := a, fn := gA.frame.fn, pos := gA.frame.place, act := .access ⟨.obj c, false, true⟩ }, { g := a, fn := gA.frame.fn, pos := gA.frame.place, act := .close c }] : Array MemOp), ∀ b, op.act.touch? = some b → b.write = false ∧ Still b.loc := by
        intro op hop b hb
        simp only [List.mem_toArray, List.mem_cons, List.not_mem_nil, or_false] at hop
        rcases hop with rfl | rfl
        · simp only [MemAct.touch?, Option.some.injEq] at hb; subst hb; exact ⟨rfl, hSc⟩
        · simp [MemAct.touch?] at hb
      have hopsg : ∀ op ∈ (#[{ g := a, fn := gA.frame.fn, pos := gA.frame.place, act := .access ⟨.obj c, false, true⟩ }, { g := a, fn := gA.frame.fn, pos := gA.frame.place, act := .close c }] : Array MemOp), op.g = a := by
        intro op hop
        simp only [List.mem_toArray, List.mem_cons, List.not_mem_nil, or_false] at hop
        rcases hop with rfl | rfl <;> rfl
      generalize hu : (#[{ g := a, fn := gA.frame.fn, pos := gA.frame.place, act := .access ⟨.obj c, false, true⟩ }, { g := a, fn := gA.frame.fn, pos := gA.frame.place, act := .close c }] : Array MemOp) = u at hrt hnotobj hopsg
      have hq' : ∀ g, ∀ op ∈ u, ∀ d, deafStep g d op = d := by
        intro g op hop d
        subst hu
        simp only [List.mem_toArray, List.mem_cons, List.not_mem_nil, or_false] at hop
        rcases hop with rfl | rfl <;> rfl
      have hdf : ∀ x, Deaf (t ++ u) x = Deaf t x := fun x => Deaf_quiet (hq' x)
      have hlow : ∀ op ∈ u, op.act.low B := by
        intro op hop
        subst hu
        simp only [List.mem_toArray, List.mem_cons, List.not_mem_nil, or_false] at hop
        rcases hop with rfl | rfl <;> exact hcB
      have e1 : (t ++ u)[t.size + 1]? = some { g := a, fn := gA.frame.fn, pos := gA.frame.place, act := .close c } := by rw [at_new]; subst hu; rfl
      have hpast : PastG Still (fun i => i = 0 ∨ i = a) (fun i => i = a) B (Knows (t ++ u) 0) (t ++ u) := PastG.appRead C.past (fun _ => Knows.app u) (.inr rfl) rfl hopsg hnotobj (hdf a) hlow
      have hfix : ∀ x y, x ≠ 0 → x ≠ a → gs[x]? = some y → woken P gA g' (w.setChan c cap #[] true k k false) y = y := fun x y hx0 hxa hy =>
        woken_of_again (again_of_running (by have := C.idle x y (fun h => h.elim hx0 hxa) hy; exact this.2.status) _)
      refine ⟨_, u, t.size + 1, hrt, by simpa using hsz, ?_, ?_, ?_, ?_⟩
      · rw [Array.getElem?_setIfInBounds_ne ha0, Array.getElem?_map, h0]
        simp only [Option.map_some, Option.some.injEq]
        unfold woken
        rw [if_pos (by simp [hmw, hg'])]
      · refine ⟨fun x y hx hy => ?_, fun _ _ _ _ e => (by cases e), fun _ _ e => (by cases e), fun _ _ z => z.elim, fun _ _ _ _ _ e => (by cases e), fun j hj => ?_, fun _ _ e => (by cases e), fun i hi => .inr hi, fun _ _ _ e => (by cases e), PastG.fewer hpast (fun g hg => .inl hg), trivial⟩
        · by_cases hxa : x = a
          · subst hxa
            rw [Array.getElem?_setIfInBounds_self_of_lt (by simpa using hlta)] at hy
            obtain rfl := Option.some.inj hy
            rw [upd_same]
            refine ⟨Nat.pos_of_ne_zero ha0, ?_⟩
            rw [hdf, C.past.hears x (.inr rfl)]
            exact hQ
          · rw [Array.getElem?_setIfInBounds_ne (fun e => hxa e.symm), Array.getElem?_map] at hy
            obtain ⟨y₀, hy₀, rfl⟩ := Option.map_eq_some_iff.1 hy
            rw [hfix x y₀ hx hxa hy₀, upd_ne q nq hxa]
            have hi := C.idle x y₀ (fun h => h.elim hx hxa) hy₀
            exact ⟨hi.1, by rw [hdf]; exact hi.2⟩
        · simp only [Array.size_setIfInBounds, Array.size_map] at hj
          rw [hdf]; exact C.above j hj
      · exact ⟨by rw [act?_of e1], a, g?_of e1, by
          rw [deaf_quiet (hq' a) 1 (by subst hu; simp)]
          exact C.past.hears a (.inr rfl)⟩
      · intro i x hx hm
        rcases hpast.known i x hx hm with hk | ⟨_, _, g, hg, rfl⟩
        · exact .inl hk
        · right
          obtain ⟨y, hy, hya⟩ := touch_of hx
          have hil := lt_size_of_getElem? hy
          have hyg : y.g = g := by have := g?_of hy; rw [hg] at this; exact (Option.some.inj this).symm
          have hsz2 : (t ++ u).size = t.size + 2 := by subst hu; simp
          rcases Nat.lt_or_ge i (t.size + 1) with hlt | hge
          · exact .inr (hb_po hlt hy e1 hyg)
          · exact .inl (by omega)
    · -- a step of its way
      left
      have hstep : stepG P (a == 0) gA w = .go gA' w es := by rw [ham]; exact hgo
      obtain ⟨hops, hr, hl, hd⟩ := evC_ops (i := a) (fn := gA.frame.fn) (pos := gA.frame.place) hes
      have hoth : ∀ x, x ≠ a → ((gs.map (woken P gA gA' w)).setIfInBounds a gA')[x]? = gs[x]? := by
        intro x hx
        rw [Array.getElem?_setIfInBounds_ne (fun e => hx e.symm), Array.getElem?_map]
        cases e : gs[x]? with
        | none => rfl
        | some y =>
          have : woken P gA gA' w y = y := woken_of_again (by
            by_cases hx0 : x = 0
            · subst hx0; rw [h0] at e; obtain rfl := Option.some.inj e; exact hag
            · exact again_of_running (by have := C.idle x y (fun h => h.elim hx0 hx) e; exact this.2.status) _)
          simp [this]
      refine ⟨nA', gA', _, _, rfl, runT_crowd_go (sl := sl) hA hstep, by simpa using hsz, by rw [hoth 0 (Ne.symm ha0)]; exact h0, Array.getElem?_setIfInBounds_self_of_lt (by simpa using hlta), hG, ?_⟩
      exact core_put C (.inr rfl) (by simp) (fun x hx => hoth x fun e => hx (.inr e)) hops w (PastG.appRead C.past (fun _ => Knows.app _) (.inr rfl) rfl hops hr (hd t) hl) hlta
  have sum_nq : ∀ (q : Nat → Nat), a < n → sumTo n (upd q a nq) ≤ sumTo n q + nq := by
    intro q hlt
    have : sumTo n (upd q a nq) + q a = sumTo n q + nq := by
      have := sumTo_upd q nq id hlt
      simpa using this
    omega
  rcases hInv with hdone | ⟨gs, w, sl, q, nM, nA, gM, gA, k, cap, rfl, hsz, hM, hA, gMo, gAo, hKA, hc, C, hμ⟩ | ⟨gs, w, sl, q, nA, gA, g₀, g₂, k, cap, rfl, hsz, hM, hat, hF, hA, gAo, hKA, hc, C, hμ⟩ | ⟨gs, w, sl, q, nM, gM, k, cap, mm, rfl, hsz, hM, gMo, hc, C, hca, hkn, hμ⟩
  · exact .inl hdone
  · -- BOTH WALK
    refine .inr ?_
    have hlta : a < gs.size := (Array.getElem?_eq_some_iff.1 hA).1
    have hMr := hstopM gMo
    have hAr := hstopA hKA gAo
    obtain ⟨i, g, d', sl', hi, hg, hst⟩ := crowd_pick (P := P) (w := w) (sl := sl) (core_awake C (fun x y hx hy => by
      rcases hx with rfl | rfl
      · rw [hM] at hy; obtain rfl := Option.some.inj hy; exact .inl hMr
      · rw [hA] at hy; obtain rfl := Option.some.inj hy; exact .inl hAr)) ⟨0, gM, hM, hMr⟩
    have Cd : Duo P Still B a t gs (w.at d') q := core_at C _
    have hKd := hKAat w d' hKA
    have gAd := Goes.rely (fun _ _ _ _ h => h) gAo (show RK KA w (w.at d') from hKd)
    have gMd := Goes.rely (rc_trans c) gMo (rc_at c w d')
    by_cases e0 : i = 0
    · subst e0
      obtain rfl : g = gM := by rw [hM] at hi; exact (Option.some.inj hi).symm
      have hcase : ((∃ g₂, AtIn P true KT Still B (Seat.one c z ok home) g g₂) ∧ F (w.at d')) ∨ ∃ nM' g' w' es, nM = nM' + 1 ∧ stepG P true g (w.at d') = .go g' w' es ∧ DD (w.at d') w' es ∧ Goes P true (RC c) DD (fun g w => (∃ g₂, AtIn P true KT Still B (Seat.one c z ok home) g g₂) ∧ F w) nM' g' w' := by
        cases nM with
        | zero => exact .inl (gMd _ (rc_refl c _))
        | succ nM' =>
          rcases gMd with hs | ⟨_, hs⟩
          · exact .inl (hs _ (rc_refl c _))
          · have := hs _ (rc_refl c _)
            cases hgo : stepG P true g (w.at d') with
            | go g' w' es => rw [hgo, goes_go] at this; exact .inr ⟨nM', g', w', es, rfl, rfl, this.1, this.2⟩
            | _ => rw [hgo] at this; exact this.elim
      rcases hcase with ⟨⟨g₂, hat⟩, hF⟩ | ⟨nM', g', w', es, rfl, hgo, hdd, hG⟩
      · -- it is parked
        obtain ⟨hst1, hf1, hf2, hf3, hh, es, hes, hstp⟩ := id hat
        obtain ⟨hops, hr, hl, hd⟩ := evC_ops (i := 0) (fn := g.frame.fn) (pos := g.frame.place) hes
        have hp : partners (gs.setIfInBounds 0 ph) c true = [] := partners_nil fun x y hy => by
          rcases getElem?_stand gs 0 x y hy with ⟨_, rfl⟩ | ⟨hx, hy'⟩
          · exact offersAt_ph _ _
          · refine offersAt_of_not_blocked (fun hb => ?_) _ _
            by_cases hxa : x = a
            · subst hxa; rw [hA] at hy'; obtain rfl := Option.some.inj hy'; rw [hAr] at hb; cases hb
            · have := (C.idle x y (fun h => h.elim hx hxa) hy').2.status
              rcases this with z | z <;> rw [z] at hb <;> cases hb
        have hw : ∀ cc ∈ #[rcase c z], NoWays (w.at d') (gs.setIfInBounds 0 ph) cc := by
          intro cc hcc
          simp only [List.mem_toArray, List.mem_cons, List.not_mem_nil, or_false] at hcc
          subst hcc
          exact ways_recv_none (w₁ := w.at d') hc hp
        refine ⟨_, _, nA + nq + 3 + sumTo n q, by rw [hst]; exact crowd_waits (sl := sl') hi (hstp (w.at d') trivial) hw, by omega, .inr (.inr (.inl ⟨_, w.at d', sl', q, nA, gA, g, g₂, k, cap, rfl, by simpa using hsz, Array.getElem?_setIfInBounds_self_of_lt (by omega), hat, hF, by rw [Array.getElem?_setIfInBounds_ne (Ne.symm ha0)]; exact hA, gAd, hKd, hc, ?_, rfl⟩))⟩
        refine core_put Cd (.inl rfl) (by simp) (fun x hx => Array.getElem?_setIfInBounds_ne fun e => hx (.inl e.symm)) hops _ (PastH.appH C.past hops (fun op hop b hb hs => (hr op hop b hb).1) (hd t) hl) (by omega)
      · -- it goes a step
        obtain ⟨hk1, hk2, hk3⟩ := hDD _ _ _ hdd
        have hstep : stepG P (0 == 0) g (w.at d') = .go g' w' es := hgo
        obtain ⟨C', h0', hoth⟩ := core_own0 (g' := g') (w' := w') Cd (.inl rfl) hi (fun x y hx hx0 hy => by
          rcases hx with rfl | rfl
          · exact absurd rfl hx0
          · rw [hA] at hy; obtain rfl := Option.some.inj hy; exact again_of_running (.inl hAr) _) hk3
        refine ⟨_, _, nM' + nA + nq + 4 + sumTo n q, by rw [hst]; exact runT_crowd_go (sl := sl') hi hstep, by omega, .inr (.inl ⟨_, w', sl', q, nM', nA, g', gA, k, cap, rfl, by simpa using hsz, h0', by rw [hoth a ha0]; exact hA, hG, Goes.rely (fun _ _ _ _ h => h) gAd (show RK KA (w.at d') w' from hk1 hKd), hk1 hKd, by rw [hk2]; exact hc, C', rfl⟩)⟩
    · by_cases ea : i = a
      · subst ea
        obtain rfl : g = gA := by rw [hA] at hi; exact (Option.some.inj hi).symm
        rcases stepA gs (w.at d') sl' q nA g gM k cap hsz hM hA (again_of_running (.inl hMr) _) gAd hKd hc Cd with ⟨nA', gA', gs', ops, rfl, hrt, hsz', h0', ha', hG, C'⟩ | ⟨gs', ops, mm, hrt, hsz', h0', C', hca, hkn⟩
        · exact ⟨_, _, nM + nA' + nq + 4 + sumTo n q, by rw [hst]; exact hrt, by omega, .inr (.inl ⟨gs', w.at d', sl', q, nM, nA', gM, gA', k, cap, rfl, hsz', h0', ha', gMd, hG, hKd, hc, C', rfl⟩)⟩
        · have h1 := sum_nq q (by omega)
          rw [again_of_running (.inl hMr)] at h0'
          exact ⟨_, _, nM + 1 + sumTo n (upd q i nq), by rw [hst]; exact hrt, by omega, .inr (.inr (.inr ⟨gs', _, sl', upd q i nq, nM, gM, k, cap, mm, rfl, hsz', h0', Goes.rely (rc_trans c) gMo ⟨d', .inr ⟨cap, k, rfl⟩⟩, heap_setChan_self (w.at d') (o := .chan cap #[] false k k false) hc _ _ _ _ _ _, C', hca, hkn, rfl⟩))⟩
      · obtain ⟨gs', ops, q', hrt, hsz', hsp, _, _, C', hlt⟩ := TokCore.by_step (sl := sl') (fun t u i => Knows.app u) Cd hi (fun h => h.elim e0 ea) hg
          (fun x gx hx hgx => by
            rcases hx with rfl | rfl
            · rw [hM] at hgx; obtain rfl := Option.some.inj hgx; exact again_of_running (.inl hMr) _
            · rw [hA] at hgx; obtain rfl := Option.some.inj hgx; exact again_of_running (.inl hAr) _) (fun hD => hD.elim) (fun s g₂ hs' => by cases hs')
        rw [hsz] at hlt
        exact ⟨_, _, nM + nA + nq + 4 + sumTo n q', by rw [hst]; exact hrt, by omega, .inr (.inl ⟨gs', w.at d', sl', q', nM, nA, gM, gA, k, cap, rfl, hsz'.trans hsz, by rw [hsp 0 (.inl rfl)]; exact hM, by rw [hsp a (.inr rfl)]; exact hA, gMd, gAd, hKd, hc, C', rfl⟩)⟩
  · -- GOROUTINE 0 IS PARKED
    refine .inr ?_
    have hlta : a < gs.size := (Array.getElem?_eq_some_iff.1 hA).1
    have hAr := hstopA hKA gAo
    obtain ⟨i, g, d', sl', hi, hg, hst⟩ := crowd_pick (P := P) (w := w) (sl := sl) (core_awake C (fun x y hx hy => by
      rcases hx with rfl | rfl
      · rw [hM] at hy; obtain rfl := Option.some.inj hy; exact .inr rfl
      · rw [hA] at hy; obtain rfl := Option.some.inj hy; exact .inl hAr)) ⟨a, gA, hA, hAr⟩
    have Cd : Duo P Still B a t gs (w.at d') q := core_at C _
    have hKd := hKAat w d' hKA
    have hFd := hFat w d' hF
    have gAd := Goes.rely (fun _ _ _ _ h => h) gAo (show RK KA w (w.at d') from hKd)
    have hcd : (w.at d').heap[c]? = some (.chan cap #[] false k k false) := hc
    by_cases e0 : i = 0
    · subst e0; rw [hM] at hi; obtain rfl := Option.some.inj hi; cases hg
    · by_cases ea : i = a
      · subst ea
        obtain rfl : g = gA := by rw [hA] at hi; exact (Option.some.inj hi).symm
        rcases stepA gs (w.at d') sl' q nA g _ k cap hsz hM hA (again_recv_open hcd) gAd hKd hc Cd with ⟨nA', gA', gs', ops, rfl, hrt, hsz', h0', ha', hG, C'⟩ | ⟨gs', ops, mm, hrt, hsz', h0', C', hca, hkn⟩
        · exact ⟨_, _, nA' + nq + 3 + sumTo n q, by rw [hst]; exact hrt, by omega, .inr (.inr (.inl ⟨gs', w.at d', sl', q, nA', gA', g₀, g₂, k, cap, rfl, hsz', h0', hat, hFd, ha', hG, hKd, hc, C', rfl⟩))⟩
        · have h1 := sum_nq q (by omega)
          have hcl : ((w.at d').setChan c cap #[] true k k false).heap[c]? = some (.chan cap #[] true k k false) := heap_setChan_self (w.at d') (o := .chan cap #[] false k k false) hc _ _ _ _ _ _
          rw [again_recv_closed hcl] at h0'
          refine ⟨_, _, 0 + 1 + sumTo n (upd q i nq), by rw [hst]; exact hrt, by omega, .inr (.inr (.inr ⟨gs', _, sl', upd q i nq, 0, _, k, cap, mm, rfl, hsz', h0', fun w₁ h₁ => ⟨⟨g₂, hat.tries #[rcase c z] (.recv ok)⟩, ?_⟩, hcl, C', hca, hkn, rfl⟩))⟩
          obtain ⟨d, h₁⟩ := h₁
          have hF1 := hFc _ cap k hFd
          rcases h₁ with rfl | ⟨cap', k', rfl⟩
          · exact hFat _ d hF1
          · exact hFc _ cap' k' (hFat _ d hF1)
      · obtain ⟨gs', ops, q', hrt, hsz', hsp, _, _, C', hlt⟩ := TokCore.by_step (sl := sl') (fun t u i => Knows.app u) Cd hi (fun h => h.elim e0 ea) hg
          (fun x gx hx hgx => by
            rcases hx with rfl | rfl
            · rw [hM] at hgx; obtain rfl := Option.some.inj hgx; exact again_recv_open hcd
            · rw [hA] at hgx; obtain rfl := Option.some.inj hgx; exact again_of_running (.inl hAr) _) (fun hD => hD.elim) (fun s g₂ hs' => by cases hs')
        rw [hsz] at hlt
        exact ⟨_, _, nA + nq + 3 + sumTo n q', by rw [hst]; exact hrt, by omega, .inr (.inr (.inl ⟨gs', w.at d', sl', q', nA, gA, g₀, g₂, k, cap, rfl, hsz'.trans hsz, by rw [hsp 0 (.inl rfl)]; exact hM, hat, hFd, by rw [hsp a (.inr rfl)]; exact hA, gAd, hKd, hc, C', rfl⟩))⟩
  · -- THE CHANNEL IS CLOSED
    refine .inr ?_
    have hlt0 : 0 < gs.size := (Array.getElem?_eq_some_iff.1 hM).1
    have hMr := hstopM gMo
    obtain ⟨i, g, d', sl', hi, hg, hst⟩ := crowd_pick (P := P) (w := w) (sl := sl) (core_awake C (fun x y hx hy => by
      subst hx; rw [hM] at hy; obtain rfl := Option.some.inj hy; exact .inl hMr)) ⟨0, gM, hM, hMr⟩
    have Cd := core_at C (w.at d')
    have gMd := Goes.rely (rc_trans c) gMo (rc_at c w d')
    have hcd : (w.at d').heap[c]? = some (.chan cap #[] true k k false) := hc
    by_cases e0 : i = 0
    · subst e0
      obtain rfl : g = gM := by rw [hM] at hi; exact (Option.some.inj hi).symm
      have hcase : ((∃ g₂, AtIn P true KT Still B (Seat.one c z ok home) g g₂) ∧ F (w.at d')) ∨ ∃ nM' g' w' es, nM = nM' + 1 ∧ stepG P true g (w.at d') = .go g' w' es ∧ DD (w.at d') w' es ∧ Goes P true (RC c) DD (fun g w => (∃ g₂, AtIn P true KT Still B (Seat.one c z ok home) g g₂) ∧ F w) nM' g' w' := by
        cases nM with
        | zero => exact .inl (gMd _ (rc_refl c _))
        | succ nM' =>
          rcases gMd with hs | ⟨_, hs⟩
          · exact .inl (hs _ (rc_refl c _))
          · have := hs _ (rc_refl c _)
            cases hgo : stepG P true g (w.at d') with
            | go g' w' es => rw [hgo, goes_go] at this; exact .inr ⟨nM', g', w', es, rfl, rfl, this.1, this.2⟩
            | _ => rw [hgo] at this; exact this.elim
      rcases hcase with ⟨⟨g₂, hat⟩, hF⟩ | ⟨nM', g', w', es, rfl, hgo, hdd, hG⟩
      · -- it finds it closed
        obtain ⟨hst1, hf1, hf2, hf3, hh, es, hes, hstp⟩ := id hat
        obtain ⟨hops, hr, hl, hd⟩ := evC_ops (i := 0) (fn := g.frame.fn) (pos := g.frame.place) hes
        have hp : partners (gs.setIfInBounds 0 ph) c true = [] := partners_nil fun x y hy => by
          rcases getElem?_stand gs 0 x y hy with ⟨_, rfl⟩ | ⟨hx, hy'⟩
          · exact offersAt_ph _ _
          · refine offersAt_of_not_blocked (fun hb => ?_) _ _
            have := (C.idle x y hx hy').2.status
            rcases this with z | z <;> rw [z] at hb <;> cases hb
        have ho : ∀ (m : Nat) (c' : CommCase), m ≠ 0 → #[rcase c z][m]? = some c' → NoWays (w.at d') (gs.setIfInBounds 0 ph) c' := by
          intro m c' hm hc'
          rcases m with _ | m
          · exact absurd rfl hm
          · simp at hc'
        have p1 : PastG Still (fun i => i = 0) (fun i => i = a) B (Knows (t ++ MemOp.ofEvents 0 g.frame.fn g.frame.place es) 0) (t ++ MemOp.ofEvents 0 g.frame.fn g.frame.place es) :=
          PastH.appH C.past hops (fun op hop b hb hs => (hr op hop b hb).1) (hd t) hl
        have k1 : Known0 mm (t ++ MemOp.ofEvents 0 g.frame.fn g.frame.place es) := hkn.app fun op hop => .inl (hops op hop)
        have p2 := take_closed p1 k1 (hca.app _) g₂.frame.fn g₂.frame.place hcB
        rw [Array.append_assoc] at p2
        refine ⟨_, _, 0, by rw [hst]; exact crowd_sel_recv_closed (sl := sl') (k := 0) hi (hstp (w.at d') trivial) rfl ho hcd hp, by omega, .inl ⟨_, g₂, w.at d', sl', q, rfl, by simpa using hsz, ?_, hh, hF, ?_⟩⟩
        · rw [Array.getElem?_setIfInBounds_self_of_lt (by omega), finishComm_served]
          exact congrArg (fun v => some (Go.Conc.served g₂ v)) (commResult_one c z ok _ z false)
        · have hall : ∀ op ∈ MemOp.ofEvents 0 g.frame.fn g.frame.place es ++ #[{ g := 0, fn := g₂.frame.fn, pos := g₂.frame.place, act := .recvClosed c }], op.g = 0 := by
            intro op hop
            rcases Array.mem_append.1 hop with z | z
            · exact hops op z
            · simp only [List.mem_toArray, List.mem_cons, List.not_mem_nil, or_false] at z; subst z; rfl
          refine ⟨⟨fun x y hx hy => ?_, fun j hj => ?_⟩, PastH.toPast p2 rfl (fun _ h => h)⟩
          · have hx0 : x ≠ 0 := by omega
            rw [Array.getElem?_setIfInBounds_ne (fun e => hx0 e.symm)] at hy
            have hi := C.idle x y hx0 hy
            rw [Deaf_other t (fun z => hx0 z.symm) _ hall]
            exact hi.2
          · simp only [Array.size_setIfInBounds] at hj
            rw [Deaf_other t (g' := 0) (by omega) _ hall]
            exact C.above j hj
      · obtain ⟨hk1, hk2, hk3⟩ := hDD _ _ _ hdd
        have hstep : stepG P (0 == 0) g (w.at d') = .go g' w' es := hgo
        obtain ⟨C', h0', hoth⟩ := core_own0 (g' := g') (w' := w') Cd rfl hi (fun x y hx hx0 hy => absurd hx hx0) hk3
        obtain ⟨hops, _, _, _⟩ := evHd_ops (i := 0) (fn := g.frame.fn) (pos := g.frame.place) hk3
        exact ⟨_, _, nM' + 1 + sumTo n q, by rw [hst]; exact runT_crowd_go (sl := sl') hi hstep, by omega, .inr (.inr (.inr ⟨_, w', sl', q, nM', g', k, cap, mm, rfl, by simpa using hsz, h0', hG, by rw [hk2]; exact hc, C', hca.app _, hkn.app fun op hop => .inl (hops op hop), rfl⟩))⟩
    · obtain ⟨gs', ops, q', hrt, hsz', hsp, _, _, C', hlt⟩ := TokCore.by_step (sl := sl') (fun t u i => Knows.app u) Cd hi e0 hg
        (fun x gx hx hgx => by subst hx; rw [hM] at hgx; obtain rfl := Option.some.inj hgx; exact again_of_running (.inl hMr) _) (fun hD => hD.elim) (fun s g₂ hs' => by cases hs')
      rw [hsz] at hlt
      refine ⟨_, _, nM + 1 + sumTo n q', by rw [hst]; exact hrt, by omega, .inr (.inr (.inr ⟨gs', w.at d', sl', q', nM, gM, k, cap, mm, rfl, hsz'.trans hsz, by rw [hsp 0 rfl]; exact hM, gMd, hc, C', hca.app _, ?_, rfl⟩))⟩
      -- a leaver's step touches nothing
      have hid := C.idle i g e0 hi
      obtain ⟨_, hq⟩ := hid
      cases hqi : q i with
      | zero => rw [hqi] at hq; have := hq.1; rw [hg] at this; cases this
      | succ k' =>
        rw [hqi] at hq
        rcases hq with ⟨hf, _⟩ | ⟨_, g', es, hm, hstp, _⟩
        · rw [hg] at hf; cases hf
        · have hi0 : (i == 0) = false := by simpa using e0
          have h2 := runT_crowd_go (P := P) (sl := sl') (w' := w.at d') hi (by rw [hi0]; exact hstp (w.at d'))
          rw [hrt] at h2
          have hops : ops = MemOp.ofEvents i g.frame.fn g.frame.place es := congrArg Prod.snd h2
          subst hops
          exact hkn.app fun op hop => .inr fun b hb => by
            obtain ⟨e, he, rfl⟩ := Go.Conc.mem_ofEvents hop
            rw [touch_mute (hm e he)] at hb
            cases hb
end Go.Proofs.Ytmdcpmfanpopgaa
/- The rules of a walk without a bound: control, plain operations, calls by their lone contracts, returns. -/
namespace Go.Proofs.Ytmdcpmfanpopgaa
open Go Go.Conc Go.RowKit
set_option linter.unusedSimpArgs false
set_option linter.unusedVariables false

/-- Operations that are plain and no call of a function. -/
def plainOp : Op → Bool
  | .move _ | .assign _ | .pick .. | .alloc _ | .box .. | .build .. | .buildSlice .. | .load .. | .store .. | .nilCheck _ | .binOp .. | .unOp .. | .convert .. | .makeSlice .. | .slice .. | .fieldAddr .. | .indexAddr .. | .index .. | .extract .. | .makeChan .. => true
  | .call { callee := .builtin b, .. } => (match b with | .append | .len | .min | .max => true | _ => false)
  | _ => false

section
variable {P : Program} {main : Bool} {Stop : Goroutine → World → Prop} {D : World → World → Array Event → Prop}

theorem t_makeChan (t : TypeId) (v : Value) : T P (Instr.makeChan t v) := by
  unfold Instr.makeChan
  repeat' first
    | with_reducible refine Tame.bind (Q := fun _ => True) ?_ (fun _ _ => ?_)
    | with_reducible exact t_pure _
    | with_reducible exact t_stuck _
    | with_reducible exact t_unsupported _
    | with_reducible exact t_underlying _
    | with_reducible exact t_typeInfo _
    | with_reducible exact t_asInt _
    | with_reducible exact t_runtimePanic _
    | with_reducible exact t_newObj _
    | with_reducible exact t_askRoom _
    | with_reducible exact t_program
    | intro _
    | dsimp only
    | split
theorem t_max2 (x y : Value) : T P (Builtin.max2 x y) := by
  unfold Builtin.max2
  repeat' first
    | with_reducible refine Tame.bind (Q := fun _ => True) ?_ (fun _ _ => ?_)
    | with_reducible exact t_pure _
    | with_reducible exact t_stuck _
    | with_reducible exact t_unsupported _
    | with_reducible exact t_choose _
    | with_reducible exact t_asBool _
    | with_reducible exact t_stringOp _ _ _
    | intro _
    | dsimp only
    | split
theorem t_max (a : Array TypeId) (t : TypeId) (x : Array Value) : T P (Builtin.max_ a t x) := by
  unfold Builtin.max_
  split
  · exact t_stuck _
  · exact tame_foldlM _ _ (fun _ _ => t_max2 _ _) _

theorem tame_plain (ρ : Operand → Value) {o : Oper} (ho : plainOp o.op = true) : T P (execOp ρ o) := by
  have tv : ∀ {s : Sem Value}, T P s → T P (do pure (Next.value (← s))) := fun h => Tame.bind h fun v _ => .pure _ trivial
  have tu : ∀ {s : Sem Unit}, T P s → T P (do s; pure Next.skip) := fun h => Tame.bind h fun v _ => .pure _ trivial
  unfold execOp
  cases hop : o.op <;> rw [hop] at ho <;> dsimp only [plainOp] at ho ⊢ <;> (try (exact absurd ho Bool.false_ne_true))
  case move => exact .pure _ trivial
  case assign => exact .pure _ trivial
  case pick => exact Tame.bind (t_asBool _) fun _ _ => .pure _ trivial
  case alloc => exact tv (t_alloc _ _ _)
  case box => exact tv (t_box _ _)
  case build => exact tv (t_build _ _)
  case buildSlice => exact tv (t_buildSlice _ _ _)
  case load => exact tv (t_loadAt _ _)
  case store => exact tu (t_storeAt _ _ _)
  case nilCheck x =>
    repeat' first
      | with_reducible exact q_runtimePanic _
      | with_reducible exact q_unsupported _
      | with_reducible exact t_program
      | with_reducible exact t_nilAhead _ _ _ _
      | with_reducible refine Tame.bind (Q := fun _ => True) ?_ (fun _ _ => ?_)
      | exact .pure _ trivial
      | intro _
      | dsimp only
      | split
  case binOp => exact tv (Tame.bind (t_eqGuard _ _ _ _ _ _) fun _ _ => t_binOp _ _ _ _)
  case unOp => exact tv (t_unary _ _)
  case convert => exact tv (t_convert _ _ _)
  case makeSlice => exact tv (t_makeSlice _ _ _)
  case makeChan => exact tv (t_makeChan _ _)
  case slice => exact tv (t_sliceAt _ _ _ _ _)
  case fieldAddr => exact tv (t_fieldAt _ _ _)
  case indexAddr => exact tv (t_indexAt _ _ _)
  case index => exact tv (t_index _ _ _)
  case extract => exact tv (t_extract _ _)
  case call c =>
    obtain ⟨cal, args, aty⟩ := c
    cases cal with
    | builtin b =>
      show Tame P _ (resolve _ _ _ >>= _)
      unfold resolve
      refine Tame.bind (Q := fun d => ∃ a, d = _) (.pure _ ⟨0, rfl⟩) ?_
      rintro _ ⟨_, rfl⟩
      dsimp only [invoke]
      cases b <;> (try (exact absurd ho Bool.false_ne_true))
      · exact tv (t_append _ _ _)
      · exact tv (t_len _ _ _)
      · exact tv (t_max _ _ _)
      · exact tv (t_min _ _ _)
    | invoke r m => exact absurd ho Bool.false_ne_true
    | value x => exact absurd ho Bool.false_ne_true

theorem gw_at {g : Goroutine} {w : World} (h : GoesW P main D Stop g w) (d : Nat) : GoesW P main D Stop g (w.at d) := by
  cases h with
  | stop h => exact .stop fun d' => h d'
  | step ng nw ne hr h hD hk => exact .step ng nw ne hr (fun d' => h d') (fun d' => hD d') hk

theorem dm_refl (w : World) : DM w w #[] := ⟨Mild.refl w, by simp⟩

theorem gw_ctl {g g' : Goroutine} {w : World} (hr : g.status = .running) (h : ∀ u, stepG P main g u = .go g' u #[]) (hn : GoesW P main DM Stop g' w) : GoesW P main DM Stop g w :=
  .step (fun _ => g') (fun d => w.at d) (fun _ => #[]) hr (fun d => h _) (fun d => dm_refl _) fun d => gw_at hn d

/-- What was known of the beginning's world is added at the stop. -/
theorem gw_mild {g : Goroutine} {w : World} (h : GoesW P main DM Stop g w) : GoesW P main DM (fun g' w' => Stop g' w' ∧ Mild w w') g w := by
  suffices hs : ∀ w₀, Mild w₀ w → GoesW P main DM (fun g' w' => Stop g' w' ∧ Mild w₀ w') g w from hs w (Mild.refl w)
  induction h with
  | @stop g w h => exact fun w₀ hm => .stop fun d => ⟨h d, hm.trans ⟨rfl, rfl, rfl, Nat.le_refl _, fun _ _ _ _ _ _ _ e => e⟩⟩
  | @step g w ng nw ne hr h hD hk ih =>
    exact fun w₀ hm => .step ng nw ne hr h hD fun d => ih d w₀ ((hm.trans ⟨rfl, rfl, rfl, Nat.le_refl _, fun _ _ _ _ _ _ _ e => e⟩ : Mild w₀ (w.at d)).trans (hD d).1)

variable {b : Frame} {a : Act} {k : List Item} {cs : List Frame} {w : World}

theorem gw_skip (hn : GoesW P main DM Stop (G (b.at a k) cs) w) : GoesW P main DM Stop (G (b.at a (.code .skip :: k)) cs) w := gw_ctl rfl (fun u => stepG_skip) hn
theorem gw_inBlock {id : Nat} (hn : GoesW P main DM Stop (G (b.at a k) cs) w) : GoesW P main DM Stop (G (b.at a (.inBlock id :: k)) cs) w := gw_ctl rfl (fun u => stepG_inBlock) hn
theorem gw_seq {x y : Code} (hn : GoesW P main DM Stop (G (b.at a (.code x :: .code y :: k)) cs) w) : GoesW P main DM Stop (G (b.at a (.code (.seq x y) :: k)) cs) w := gw_ctl rfl (fun u => stepG_seq) hn
theorem gw_cond {c : Operand} {x y : Code} (t : Bool) (h : a.eval c = .bool t) (hn : GoesW P main DM Stop (G (b.at a (.code (if t then x else y) :: k)) cs) w) : GoesW P main DM Stop (G (b.at a (.code (.cond c x y) :: k)) cs) w := gw_ctl rfl (fun u => stepG_cond h) hn
theorem gw_block {id : Nat} {c : Code} (hn : GoesW P main DM Stop (G (b.at a (.code c :: .inBlock id :: k)) cs) w) : GoesW P main DM Stop (G (b.at a (.code (.block id c) :: k)) cs) w := gw_ctl rfl (fun u => stepG_block) hn
theorem gw_loop {c : Code} (hn : GoesW P main DM Stop (G (b.at a (.code c :: .inLoop c :: k)) cs) w) : GoesW P main DM Stop (G (b.at a (.code (.loop c) :: k)) cs) w := gw_ctl rfl (fun u => stepG_loop) hn
theorem gw_inLoop {c : Code} (hn : GoesW P main DM Stop (G (b.at a (.code c :: .inLoop c :: k)) cs) w) : GoesW P main DM Stop (G (b.at a (.inLoop c :: k)) cs) w := gw_ctl rfl (fun u => stepG_inLoop) hn
theorem gw_exit {id : Nat} {k' : List Item} (h : exitTo id k = some k') (hn : GoesW P main DM Stop (G (b.at a k') cs) w) : GoesW P main DM Stop (G (b.at a (.code (.exit id) :: k)) cs) w := gw_ctl rfl (fun u => stepG_exit h) hn
theorem gw_region {id : Nat} {ops : Array Oper} (l : List Nat) (hl : l = List.range ops.size) (hn : GoesW P main DM Stop (G (b.at a (.inRegion ops l :: k)) cs) w) : GoesW P main DM Stop (G (b.at a (.code (.region id ops false) :: k)) cs) w := gw_ctl rfl (fun u => stepG_region) (hl ▸ hn)
theorem gw_region_end {ops : Array Oper} (hn : GoesW P main DM Stop (G (b.at a k) cs) w) : GoesW P main DM Stop (G (b.at a (.inRegion ops [] :: k)) cs) w := gw_ctl rfl (fun u => stepG_region_end) hn
theorem stepG_retG : stepG P main (G (b.at a (.code .ret :: k)) cs) w = .go (G { b.at a (.code .ret :: k) with mode := .returning } cs) w := by simp [G, stepG, stepG.exec, Frame.at]
theorem gw_ret (hn : GoesW P main DM Stop (G { b.at a (.code .ret :: k) with mode := .returning } cs) w) : GoesW P main DM Stop (G (b.at a (.code .ret :: k)) cs) w := gw_ctl rfl (fun u => stepG_retG) hn

variable {ops : Array Oper} {i : Nat} {rest : List Nat} {o : Oper}

theorem stepG_unwanted (ho : ops[i]? = some o) (hw : Region.wanted o (yielded ops a.tmps) = false) :
    stepG P main (G (b.at a (.inRegion ops (i :: rest) :: k)) cs) w = .go (G (b.at (a.put o.dst undef) (.inRegion ops rest :: k)) cs) w := by
  have hfin : (b.at a (.inRegion ops (i :: rest) :: k)).finish undef = b.at (a.put o.dst undef) (.inRegion ops rest :: k) := by rw [Frame.finish_at, ho]; rfl
  rw [← hfin]
  have h' : ((ops[i]?).map (Region.wanted · (yielded ops a.tmps))).getD false = false := by rw [ho]; exact hw
  simp only [Frame.at] at *
  simp [G, stepG, stepG.exec, h']
theorem gw_unwanted (ho : ops[i]? = some o) (hw : Region.wanted o (yielded ops a.tmps) = false) (hn : GoesW P main DM Stop (G (b.at (a.put o.dst undef) (.inRegion ops rest :: k)) cs) w) :
    GoesW P main DM Stop (G (b.at a (.inRegion ops (i :: rest) :: k)) cs) w := gw_ctl rfl (fun u => stepG_unwanted ho hw) hn

/-- A PLAIN OPERATION, whatever the tape answers it. -/
theorem gw_any (ho : ops[i]? = some o) (hw : Region.wanted o (yielded ops a.tmps) = true) (hk : b.kind ≠ .early) (ht : T P (execOp a.eval o))
    (h : ∀ d, uponK o a (fun a' w' => GoesW P main DM Stop (G (b.at a' (.inRegion ops rest :: k)) cs) w') ((execOp a.eval o).run P (w.at d))) : GoesW P main DM Stop (G (b.at a (.inRegion ops (i :: rest) :: k)) cs) w := by
  refine GoesW.steps rfl fun d => ?_
  have hd := h d
  obtain ⟨r, es, m, R⟩ := ht.runs (w.at d) #[]
  have hrun : (execOp a.eval o).run P (w.at d) = r := by
    have := congrArg Prod.fst R.run
    rw [Sem.runT_eq] at this
    exact this
  have hev : (execOp a.eval o).events P (w.at d) #[] = es := by
    have := congrArg Prod.snd R.run
    rw [Sem.runT_eq] at this
    simpa using this
  rw [hrun] at hd
  have hsub : ∀ e ∈ listed P b.fn a o (w.at d), EvIn (rworld r).heap.size e := fun e he => R.evs e (by have := mem_listed he; rw [hev] at this; exact this)
  cases r with
  | ok n w' =>
    cases n with
    | value v => exact ⟨_, w', _, stepG_value ho hw hk hrun, ⟨R.mild, hsub⟩, hd⟩
    | skip => exact ⟨_, w', _, stepG_none ho hw hk hrun, ⟨R.mild, hsub⟩, hd⟩
    | _ => exact hd.elim
  | halt => exact hd.elim

/-- A PLAIN OPERATION THAT ASKS THE TAPE NOTHING: reckoned in the world at hand. -/
theorem gw_op (ho : ops[i]? = some o) (hw : Region.wanted o (yielded ops a.tmps) = true) (hk : b.kind ≠ .early) (hp : plainOp o.op = true)
    (h : ∀ K : Act → World → Prop, (∀ a' w', w'.drawn = w.drawn → GoesW P main DM Stop (G (b.at a' (.inRegion ops rest :: k)) cs) w' → K a' w') → uponK o a K ((execOp a.eval o).run P w)) :
    GoesW P main DM Stop (G (b.at a (.inRegion ops (i :: rest) :: k)) cs) w := by
  have ht : T P (execOp a.eval o) := tame_plain _ hp
  refine gw_any ho hw hk ht fun d => ?_
  have h0 := h (fun a' w' => w'.drawn = w.drawn ∧ GoesW P main DM Stop (G (b.at a' (.inRegion ops rest :: k)) cs) w') fun _ _ x y => ⟨x, y⟩
  obtain ⟨r, es, m, R⟩ := ht.runs w #[]
  have hrun : (execOp a.eval o).run P w = r := by
    have := congrArg Prod.fst R.run
    rw [Sem.runT_eq] at this
    exact this
  rw [hrun] at h0
  have hoth : (rworld r).drawn = w.drawn → (execOp a.eval o).run P (w.at d) = rtap w.tape d r := fun e => by
    have hm : m = 0 := by have := R.drawn; omega
    subst hm
    have := congrArg Prod.fst (R.other w.tape d (fun j hj => by omega))
    rw [Sem.runT_eq] at this
    exact this
  cases r with
  | ok n w' =>
    have hat : w'.drawn = w.drawn → rtap w.tape d (Result.ok n w') = .ok n (w'.at d) := fun _ => by
      show Result.ok n (tap w' w.tape d) = _
      rw [← R.mild.tape]; rfl
    cases n with
    | value v => rw [hoth h0.1, hat h0.1]; exact gw_at h0.2 d
    | skip => rw [hoth h0.1, hat h0.1]; exact gw_at h0.2 d
    | _ => exact h0.elim
  | halt => exact h0.elim

/-- A CALL OF A FUNCTION BY ITS LONE CONTRACT. -/
theorem gw_call {pl : Plan} (hF : pl.Fits P) {f : FuncId} {fn : Func} {xs : Array Operand} {ats : Array TypeId} {args : Array Value} (R : Value → World → Prop) (ho : ops[i]? = some o) (hw : Region.wanted o (yielded ops a.tmps) = true) (hk : b.kind ≠ .early)
    (hop : o.op = .call { callee := .value (.func f), args := xs, argTypes := ats }) (hf : P.funcs[f]? = some fn) (hb : fn.body.isSome = true) (hname : (fn.name == "runtime.NumGoroutine") = false) (hargs : xs.map a.eval = args)
    (hent : pl.FrOk (Frame.enter P f args .normal)) (hc : ∀ u : World, u.heap = w.heap → Calls P f args u fun e w' => ∃ v, e = .returned v ∧ R v w') (hRt : ∀ v u τ d, R v u → R v (tap u τ d))
    (hn : ∀ v w', R v w' → Mild w w' → GoesW P main DM Stop (G (b.at (a.put o.dst v) (.inRegion ops rest :: k)) cs) w') :
    GoesW P main DM Stop (G (b.at a (.inRegion ops (i :: rest) :: k)) cs) w := by
  have ef : a.eval (.func f) = .func (.func f) #[] #[] := rfl
  have hrunc : ∀ u : World, (callFunc f args).run P u = .ok (.enter f args) u ∧ (callFunc f args).events P u #[] = #[] := by
    intro u
    obtain ⟨c, hc⟩ := Option.isSome_iff_exists.1 hb
    have h1 : ¬ fn.name = "runtime.NumGoroutine" := by simpa using hname
    constructor <;> simp [callFunc, hf, hc, h1]
  have hr : ∀ u : World, (execOp a.eval o).run P u = .ok (.enter f args) u := by
    intro u
    unfold execOp
    simp only [hop]
    simp [resolve, Deferred.ofValue, ef, invoke, hargs, (hrunc u).1]
  have he : ∀ u : World, (execOp a.eval o).events P u #[] = #[] := by
    intro u
    unfold execOp
    simp only [hop]
    simp [resolve, Deferred.ofValue, ef, invoke, hargs, (hrunc u).2]
  have hk' : (b.kind == CallKind.early) = false := by simpa using hk
  refine gw_ctl (g' := G (Frame.enter P f args .normal) (b.at a (.inRegion ops (i :: rest) :: k) :: cs)) rfl (fun u => ?_) ?_
  · rw [stepG_oper ho hw]
    simp [stepG.apply, hr u, he u, G, Frame.at, hk', GStep.after, seen_none]
  · refine GoesW.trans (gw_mild (goesW_call (main := main) (cs := cs) hF hent hRt (fun τ d => hc _ rfl) (b.at a (.inRegion ops (i :: rest) :: k)))) ?_
    rintro g w' ⟨⟨v, rfl, hR⟩, hm⟩
    rw [Frame.finish_at, ho]
    exact hn v w' hR hm

/-- A DEFER OF A BUILTIN. -/
theorem gw_defer {bi : Builtin} {xs : Array Operand} {ats : Array TypeId} (ho : ops[i]? = some o) (hw : Region.wanted o (yielded ops a.tmps) = true) (hk : b.kind ≠ .early) (hop : o.op = .defer { callee := .builtin bi, args := xs, argTypes := ats })
    (hn : GoesW P main DM Stop (G (b.at (Act.put ⟨a.tmps, { target := .builtin bi ats o.type (xs.map fun | .const _ => true | _ => false), args := xs.map a.eval } :: a.defers⟩ o.dst undef) (.inRegion ops rest :: k)) cs) w) :
    GoesW P main DM Stop (G (b.at a (.inRegion ops (i :: rest) :: k)) cs) w := by
  refine gw_ctl rfl (fun u => ?_) hn
  have hr : (execOp a.eval o).run P u = .ok (.defer { target := .builtin bi ats o.type (xs.map fun | .const _ => true | _ => false), args := xs.map a.eval }) u := by
    unfold execOp
    simp [hop, resolve]
    try (intro x _; cases x <;> rfl)
  have he : (execOp a.eval o).events P u #[] = #[] := by
    unfold execOp
    simp [hop, resolve]
  have hfin : ∀ D : Deferred, (b.at ⟨a.tmps, D :: a.defers⟩ (.inRegion ops (i :: rest) :: k)).finish undef = b.at (Act.put ⟨a.tmps, D :: a.defers⟩ o.dst undef) (.inRegion ops rest :: k) := fun D => by rw [Frame.finish_at, ho]; rfl
  have hk' : (b.kind == CallKind.early) = false := by simpa using hk
  rw [stepG_oper ho hw, ← hfin]
  simp [stepG.apply, hr, he, G, Frame.at, hk', GStep.after, seen_none]

/-- BACK TO THE CALLER: no call deferred, the results in temporaries. -/
theorem stepG_leave {fn : Func} {c : Frame} {todo : List Item} {v : Value} (hkn : b.kind = .normal) (hd : a.defers = []) (hf : P.funcs[b.fn]? = some fn) (hr : (results fn a.tmps).run P w = .ok v w) (he : (results fn a.tmps).events P w #[] = #[]) :
    stepG P main (G { b.at a todo with mode := .returning } (c :: cs)) w = .go (G (c.finish v) cs) w := by
  simp [G, stepG, unwind, doReturn, Frame.at, hkn, hd, hf, hr, he, GStep.after, seen_none]
theorem gw_leave {fn : Func} {c : Frame} {todo : List Item} {v : Value} (hkn : b.kind = .normal) (hd : a.defers = []) (hf : P.funcs[b.fn]? = some fn) (hr : ∀ u, (results fn a.tmps).run P u = .ok v u) (he : ∀ u, (results fn a.tmps).events P u #[] = #[])
    (hn : GoesW P main DM Stop (G (c.finish v) cs) w) : GoesW P main DM Stop (G { b.at a todo with mode := .returning } (c :: cs)) w := gw_ctl rfl (fun u => stepG_leave hkn hd hf (hr u) (he u)) hn
end
end Go.Proofs.Ytmdcpmfanpopgaa
