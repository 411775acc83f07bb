/- The functions that the walks enter by their contracts: all of their operations are plain. -/
import Derived.Test.YtmdcpmfanpopgaaComB
import Derived.Test.YtmdcpmfanpopgaaM
import Derived.Conc.CompanyDraw
import Derived.Conc.AppendWalk
import Derived.Conc.TokenAlone
import Derived.Conc.LoneCalls
import Derived.KernelRfl
namespace Go.Proofs.Ytmdcpmfanpopgaa
open Go Go.Conc Go.RowKit
set_option linter.unusedSimpArgs false
set_option linter.unusedVariables false

def pl : Plan := { good := [9, 11, 13, 14, 16, 23, 26, 27, 28, 29, 30, 33, 38, 39, 40, 41, 42, 43, 44, 47, 48, 49, 50, 51, 52], byVal := [40, 42, 52], pins := [(39, [2, 20]), (41, [2, 20]), (51, [1, 16])] }

noncomputable def plOk (f : FuncId) (x : Option Func) : Bool :=
  match x with
  | some fn => (match fn.body with | some c => !(fn.name == "runtime.NumGoroutine") && pl.codeOk f c | none => false)
  | none => false
noncomputable def plAll : Bool := pl.good.all fun f => plOk f Try.prog.funcs[f]?
set_option maxRecDepth 100000 in
theorem plAll_true : plAll = true := by kernel_rfl
noncomputable def noReady : Bool := Try.prog.funcs.toList.all fun f => match f.body with | some c => (readies c).isEmpty | none => true
set_option maxRecDepth 100000 in
theorem noReady_true : noReady = true := by kernel_rfl
theorem plFits : pl.Fits Try.prog := by
  refine ⟨fun f hf => ?_, fun f hf => ?_, ?_, fun g => ?_⟩
  · have h := List.all_eq_true.1 plAll_true f hf
    unfold plOk at h
    cases e : Try.prog.funcs[f]? with
    | none => rw [e] at h; cases h
    | some fn =>
      rw [e] at h
      dsimp only at h
      cases e2 : fn.body with
      | none => rw [e2] at h; cases h
      | some c =>
        rw [e2] at h
        dsimp only at h
        simp only [Bool.and_eq_true, Bool.not_eq_true'] at h
        exact ⟨fn, c, rfl, e2, h.1, h.2⟩
  · have h1 : pl.byVal.all (fun f => pl.good.contains f) = true := by decide
    refine ⟨by have := List.all_eq_true.1 h1 f hf; simpa using this, fun t => ?_⟩
    have h2 : f = 40 ∨ f = 42 ∨ f = 52 := by simpa [pl] using hf
    rcases h2 with rfl | rfl | rfl <;> simp [Plan.pin, pl]
  · kernel_rfl
  · unfold Program.stepOf
    rw [Array.findIdx?_eq_none_iff]
    intro f hf
    have h := List.all_eq_true.1 noReady_true f (Array.mem_toList_iff.2 hf)
    cases e : f.body with
    | none => simp
    | some c =>
      rw [e] at h
      have : readies c = [] := by simpa using h
      simp [this]
end Go.Proofs.Ytmdcpmfanpopgaa
/- More rules: entering a function; a call whose contract keeps what was there; what a store leaves of a block. -/
namespace Go.Proofs.Ytmdcpmfanpopgaa
open Go Go.Conc Go.RowKit
set_option linter.unusedSimpArgs false
set_option linter.unusedVariables false

theorem gw_enter {P : Program} {main : Bool} {Stop : Goroutine → World → Prop} {D : World → World → Array Event → Prop} {f : FuncId} {fn : Func} {c : Code} {args : Array Value} {cs : List Frame} {w : World} (hf : P.funcs[f]? = some fn) (hb : fn.body = some c)
    (h : GoesW P main D Stop (G ((base f).at { tmps := args ++ Array.replicate (fn.ntmps - args.size) undef, defers := [] } [.code c]) cs) w) : GoesW P main D Stop (G (Frame.enter P f args .normal) cs) w := by
  rw [enter_at args hf hb]; exact h

theorem below_of {w w' : World} (hm : Mild w w') (hb : ∀ k, k < w.heap.size → w'.heap[k]? = w.heap[k]?) : Below w.heap.size w w' := ⟨hm.os, hm.tape, hm.output, hm.size, hb⟩
theorem mild_of_below {w w' : World} (h : Below w.heap.size w w') : Mild w w' :=
  ⟨h.tape, h.os, h.output, h.size, fun c cap buf cl s r tm e => by rw [h.block c (Array.getElem?_eq_some_iff.1 e).1]; exact e⟩
theorem below_step' {N : Nat} {W w w' : World} (h : Below N W w) (hN : N ≤ w.heap.size) (h' : Below w.heap.size w w') : Below N W w' := h.trans (h'.mono hN)

section
variable {main : Bool} {Stop : Goroutine → World → Prop} {b : Frame} {a : Act} {k : List Item} {cs : List Frame} {w : World} {ops : Array Oper} {i : Nat} {rest : List Nat} {o : Oper}

/-- A CALL whose contract says one value, and that what was there stands. -/
theorem gw_callB {f : FuncId} {fn : Func} {xs : Array Operand} {ats : Array TypeId} {args : Array Value} (v0 : Value) (ho : ops[i]? = some o) (hw : Region.wanted o (yielded ops a.tmps) = true) (hk : b.kind ≠ .early)
    (hop : o.op = .call { callee := .value (.func f), args := xs, argTypes := ats }) (hf : Try.prog.funcs[f]? = some fn) (hb : fn.body.isSome = true) (hname : (fn.name == "runtime.NumGoroutine") = false) (hargs : xs.map a.eval = args)
    (hent : pl.FrOk (Frame.enter Try.prog f args .normal)) (hc : ∀ u : World, u.heap = w.heap → Calls Try.prog f args u fun e w' => e = .returned v0 ∧ Below u.heap.size u w')
    (hn : ∀ w', Below w.heap.size w w' → GoesW Try.prog main DM Stop (G (b.at (a.put o.dst v0) (.inRegion ops rest :: k)) cs) w') :
    GoesW Try.prog main DM Stop (G (b.at a (.inRegion ops (i :: rest) :: k)) cs) w := by
  refine gw_call plFits (fun v w' => v = v0 ∧ ∀ k, k < w.heap.size → w'.heap[k]? = w.heap[k]?) ho hw hk hop hf hb hname hargs hent (fun u hu => (hc u hu).mono ?_) (fun v u τ d h => h) ?_
  · rintro e w' ⟨rfl, hb⟩
    exact ⟨v0, rfl, rfl, fun k hk => by rw [hb.block k (by rw [hu]; exact hk), hu]⟩
  · rintro v w' ⟨rfl, hb⟩ hm
    exact hn w' (below_of hm hb)

/-- .. whose contract says more of the value and the world behind it. -/
theorem gw_callR {f : FuncId} {fn : Func} {xs : Array Operand} {ats : Array TypeId} {args : Array Value} (R : Value → World → Prop) (hRt : ∀ v u τ d, R v u → R v (tap u τ d)) (ho : ops[i]? = some o) (hw : Region.wanted o (yielded ops a.tmps) = true) (hk : b.kind ≠ .early)
    (hop : o.op = .call { callee := .value (.func f), args := xs, argTypes := ats }) (hf : Try.prog.funcs[f]? = some fn) (hb : fn.body.isSome = true) (hname : (fn.name == "runtime.NumGoroutine") = false) (hargs : xs.map a.eval = args)
    (hent : pl.FrOk (Frame.enter Try.prog f args .normal)) (hc : ∀ u : World, u.heap = w.heap → Calls Try.prog f args u fun e w' => ∃ v, e = .returned v ∧ R v w' ∧ Below u.heap.size u w')
    (hn : ∀ v w', R v w' → Below w.heap.size w w' → GoesW Try.prog main DM Stop (G (b.at (a.put o.dst v) (.inRegion ops rest :: k)) cs) w') :
    GoesW Try.prog main DM Stop (G (b.at a (.inRegion ops (i :: rest) :: k)) cs) w := by
  refine gw_call plFits (fun v w' => R v w' ∧ ∀ k, k < w.heap.size → w'.heap[k]? = w.heap[k]?) ho hw hk hop hf hb hname hargs hent (fun u hu => (hc u hu).mono ?_) (fun v u τ d h => ⟨hRt _ _ _ _ h.1, h.2⟩) ?_
  · rintro e w' ⟨v, rfl, hR, hb⟩
    exact ⟨v, rfl, hR, fun k hk => by rw [hb.block k (by rw [hu]; exact hk), hu]⟩
  · rintro v w' ⟨hR, hb⟩ hm
    exact hn v w' hR (below_of hm hb)
end

/-- A function without pinned parameters is entered with whatever. -/
theorem ent_ok {f : FuncId} {args : Array Value} (hf : pl.good.contains f = true) (hp : (pl.pins.any fun x => x.1 == f) = false) : pl.FrOk (Frame.enter Try.prog f args .normal) := by
  refine frOk_enter plFits (by simpa using hf) fun t ht => ?_
  exfalso
  unfold Plan.pin at ht
  obtain ⟨x, hx, h⟩ := List.any_eq_true.1 ht
  have := (List.any_eq_false.1 hp) x hx
  simp only [Bool.and_eq_true] at h
  exact this h.1

theorem heap_setCell_self {w : World} {b o : Nat} {c : Array Value} {e : TypeId} {f : Nat × Nat} (h : w.heap[b]? = some (.cells c e f)) (v : Value) : (w.setCell ⟨b, o, none⟩ v).heap[b]? = some (.cells (c.setIfInBounds o v) e f) := by
  simp only [World.setCell, Array.getElem?_modify, if_true, h]
  rfl
theorem heap_setCell_ne {w : World} {b o k : Nat} (v : Value) (h : k ≠ b) : (w.setCell ⟨b, o, none⟩ v).heap[k]? = w.heap[k]? := Below.heap_setCell w _ v k h
theorem cell_of {w : World} {b o : Nat} {c : Array Value} {e : TypeId} {f : Nat × Nat} (h : w.heap[b]? = some (.cells c e f)) : w.cell? ⟨b, o, none⟩ = c[o]? := by simp [World.cell?, h]
theorem frozen_of {w : World} {b o : Nat} {c : Array Value} {e : TypeId} (h : w.heap[b]? = some (.cells c e (0, 0))) : w.frozen? ⟨b, o, none⟩ = false := by simp [World.frozen?, h]
theorem size_setCell' (w : World) (a : Addr) (v : Value) : (w.setCell a v).heap.size = w.heap.size := by simp [World.setCell]
theorem heap_alloc_self (w : World) (o : Obj) : (w.alloc o).heap[w.heap.size]? = some o := by
  show (w.heap.push o)[w.heap.size]? = some o
  simp
theorem heap_alloc_lt {w : World} (o : Obj) {k : Nat} (h : k < w.heap.size) : (w.alloc o).heap[k]? = w.heap[k]? := Below.heap_alloc w o k h
theorem size_alloc' (w : World) (o : Obj) : (w.alloc o).heap.size = w.heap.size + 1 := by
  show (w.heap.push o).size = _
  simp
end Go.Proofs.Ytmdcpmfanpopgaa
/- More rules: back to the caller with results read from the heap. -/
namespace Go.Proofs.Ytmdcpmfanpopgaa
open Go Go.Conc Go.RowKit
set_option linter.unusedSimpArgs false
set_option linter.unusedVariables false
variable {P : Program} {main : Bool} {Stop : Goroutine → World → Prop} {b : Frame} {a : Act} {k : List Item} {cs : List Frame} {w : World}

theorem runT_at {α : Type} {s : Sem α} (hs : T P s) {w : World} {v : α} (hr : s.run P w = .ok v w) : ∃ es, (∀ e ∈ es, EvIn w.heap.size e) ∧ ∀ d, s.runT P (w.at d) #[] = (.ok v (w.at d), es) := by
  obtain ⟨r, es, m, R⟩ := hs.runs w #[]
  have h1 : r = .ok v w := by
    have := congrArg Prod.fst R.run
    rw [Sem.runT_eq] at this
    simp only at this
    rw [← this]; exact hr
  subst h1
  have hm0 : m = 0 := by have := R.drawn; simp only [rworld] at this; omega
  subst hm0
  refine ⟨es, fun e he => R.evs e he, fun d => ?_⟩
  have := R.other w.tape d (fun j hj => by omega)
  rw [Array.empty_append] at this
  exact this

theorem gw_leaveAt {fn : Func} {c : Frame} {todo : List Item} {v : Value} (hkn : b.kind = .normal) (hd : a.defers = []) (hf : P.funcs[b.fn]? = some fn) (hr : (results fn a.tmps).run P w = .ok v w)
    (hn : GoesW P main DM Stop (G (c.finish v) cs) w) : GoesW P main DM Stop (G { b.at a todo with mode := .returning } (c :: cs)) w := by
  obtain ⟨es, hev, hrunT⟩ := runT_at (results_tame (P := P) fn a.tmps) hr
  refine .step (fun _ => G (c.finish v) cs) (fun d => w.at d) (fun _ => seen P b.fn es) rfl (fun d => ?_) (fun d => ⟨Mild.refl _, fun e he => hev e (mem_seen he)⟩) fun d => gw_at hn d
  rw [stepG_unwind (by simp)]
  unfold unwind
  simp only [Frame.at, hd, hf, hrunT d, GStep.after, doReturn, hkn]
  simp [G]

theorem results_ct {fn : Func} {i j : Tmp} {t : TypeId} {ad : Addr} {v : Value} {tmps : Array Value} (h : fn.results = #[.cell i t, .tmp j]) (hi : tmps.getD i undef = .pointer (some ad)) (hl : (loadVar t ad).run P w = .ok v w) :
    (results fn tmps).run P w = .ok (.tuple #[v, tmps.getD j undef]) w := by
  have hi' : tmps[i]?.getD undef = .pointer (some ad) := by rw [← hi, Array.getD_eq_getD_getElem?]
  simp [results, h, hi', hl, asAddr]
end Go.Proofs.Ytmdcpmfanpopgaa
/- Written by wip/tools/genget.py: the walk of trace.Get, in company. -/
namespace Go.Proofs.Ytmdcpmfanpopgaa
open Go Go.Conc Go.RowKit Go.Proofs.Ytmdcpmfanpopgaa.M
set_option linter.unusedSimpArgs false
set_option linter.unusedVariables false

def zero27 : Array Value := #[.int .i64 0, .int .i64 0, .int .i64 0, .string ⟨#[]⟩]
/-- What Get holds of the world: the result's block, the record's, the row of the three addresses. -/
structure GS (W : World) (N : Nat) (rs xs : Array Value) (w : World) : Prop where
  size : N + 3 ≤ w.heap.size
  below : Below N W w
  res : w.heap[N]? = some (.cells rs 27 (0, 0))
  r : w.heap[N + 1]? = some (.cells xs 27 (0, 0))
  s : w.heap[N + 1 + 1]? = some (.cells #[.pointer (some ⟨N + 1, 0, none⟩), .pointer (some ⟨N + 1, 1, none⟩), .pointer (some ⟨N + 1, 2, none⟩)] 64 (0, 0))
theorem GS.next {W w w' : World} {N : Nat} {rs xs : Array Value} (h : GS W N rs xs w) (hb : Below w.heap.size w w') : GS W N rs xs w' :=
  ⟨Nat.le_trans h.size hb.size, below_step' h.below (by have := h.size; omega) hb, by rw [hb.block N (by have := h.size; omega)]; exact h.res, by rw [hb.block (N + 1) (by have := h.size; omega)]; exact h.r, by rw [hb.block (N + 1 + 1) (by have := h.size; omega)]; exact h.s⟩
theorem GS.setr {W w : World} {N : Nat} {rs xs : Array Value} (h : GS W N rs xs w) (o : Nat) (v : Value) : GS W N rs (xs.setIfInBounds o v) (w.setCell ⟨N + 1, o, none⟩ v) :=
  ⟨by rw [size_setCell']; exact h.size, h.below.setCell (Nat.le_succ N) v, by rw [heap_setCell_ne v (by omega)]; exact h.res, heap_setCell_self h.r v, by rw [heap_setCell_ne v (by omega)]; exact h.s⟩
theorem GS.sets {W w : World} {N : Nat} {rs xs : Array Value} (h : GS W N rs xs w) (o : Nat) (v : Value) : GS W N (rs.setIfInBounds o v) xs (w.setCell ⟨N, o, none⟩ v) :=
  ⟨by rw [size_setCell']; exact h.size, h.below.setCell (Nat.le_refl N) v, heap_setCell_self h.res v, by rw [heap_setCell_ne v (by omega)]; exact h.r, by rw [heap_setCell_ne v (by omega)]; exact h.s⟩
theorem gs_start (W : World) : GS W W.heap.size zero27 zero27 (((W.alloc (.cells zero27 27)).alloc (.cells zero27 27)).alloc (.cells #[.pointer (some ⟨W.heap.size + 1, 0, none⟩), .pointer (some ⟨W.heap.size + 1, 1, none⟩), .pointer (some ⟨W.heap.size + 1, 2, none⟩)] 64)) := by
  have e1 : (W.alloc (.cells zero27 27)).heap.size = W.heap.size + 1 := size_alloc' _ _
  have e2 : ((W.alloc (.cells zero27 27)).alloc (.cells zero27 27)).heap.size = W.heap.size + 1 + 1 := by rw [size_alloc', e1]
  refine ⟨by rw [size_alloc', e2]; omega, ((((Below.refl W.heap.size W).alloc (Nat.le_refl _) _).alloc (by rw [e1]; omega) _).alloc (by rw [e2]; omega) _), ?_, ?_, ?_⟩
  · rw [heap_alloc_lt _ (by rw [e2]; omega), heap_alloc_lt _ (by rw [e1]; omega)]; exact heap_alloc_self _ _
  · rw [heap_alloc_lt _ (by rw [e2]; omega), ← e1]; exact heap_alloc_self _ _
  · rw [← e2]; exact heap_alloc_self _ _

set_option maxHeartbeats 8000000 in
set_option maxRecDepth 100000 in
/-- trace.Get of a text whose three numbers stand there. -/
theorem get_walk {main : Bool} {Stop : Goroutine → World → Prop} (kf : Nat) (s t b : ByteArray) (n1 n2 n3 a1 a2 a3 a4 e4 : Int) (c : Frame) (cs : List Frame) (W : World)
    (h1 : vint_Get.f kf s 0 = some (n1, a1, 0)) (h2 : vint_Get.f kf s a1 = some (n2, a2, 0)) (h3 : vint_Get.f kf s a2 = some (n3, a3, 0)) (h4 : vint_GetText.f kf s a3 = some (t, a4, e4))
    (h5 : e4 = 0 → trace_Put.f kf n1 n2 n3 t = some (b, 0)) (res : Array Value) (er : Int) (hres : (e4 ≠ 0 ∧ res = zero27 ∧ er = 4) ∨ (e4 = 0 ∧ b.toList ≠ s.toList ∧ res = zero27 ∧ er = 4) ∨ (e4 = 0 ∧ b.toList = s.toList ∧ res = #[.int .i64 n1, .int .i64 n2, .int .i64 n3, .string t] ∧ er = 0))
    (hn : ∀ w', Below W.heap.size W w' → GoesW Try.prog main DM Stop (G (c.finish (.tuple #[.agg res, .int .i64 er])) cs) w') :
    GoesW Try.prog main DM Stop (G (Frame.enter Try.prog 14 #[.string s] .normal) (c :: cs)) W := by
  have hw1 : IntKind.i64.wrap 1 = 1 := by decide
  have hw2 : IntKind.i64.wrap 2 = 2 := by decide
  have hw3 : IntKind.i64.wrap 3 = 3 := by decide
  refine gw_enter Try.func14 rfl ?_
  simp only [Try.f14]
  walk_nrm
  repeat (first
    | with_reducible refine gw_seq ?_
    | with_reducible refine gw_skip ?_
    | with_reducible refine gw_inBlock ?_
    | with_reducible refine gw_block ?_
    | with_reducible refine gw_loop ?_
    | with_reducible refine gw_inLoop ?_
    | with_reducible refine gw_region_end ?_
    | (refine gw_region _ rfl ?_; simp only [List.size_toArray, List.length_cons, List.length_nil, Nat.reduceAdd, Nat.zero_add, List.range, List.range.loop])
    | (refine gw_exit rfl ?_)
    | (refine gw_cond _ rfl ?_; simp only [if_true, if_false, Bool.false_eq_true, reduceIte, Bool.not_true, Bool.not_false, decide_true, decide_false, decide_eq_true_eq, not_true_eq_false, not_false_eq_true])
    | (refine gw_unwanted rfl (by rfl) ?_; try walk_nrm)
    | (refine gw_op rfl (by rfl) (by decide) rfl (fun K hK => ?_); go_simp; refine hK _ _ rfl ?_; clear hK K; try walk_nrm)
    )
  generalize hw0 : (((W.alloc _).alloc _).alloc _ : World) = w0
  have g0 : GS W W.heap.size zero27 zero27 w0 := hw0 ▸ gs_start W
  clear hw0
  generalize hNN : W.heap.size = N at hn g0 ⊢
  refine gw_callB (args := #[.string s, .int .i64 0]) (.tuple #[.int .i64 n1, .int .i64 a1, .int .i64 0]) rfl (by rfl) (by decide) rfl Try.func29 rfl (by kernel_rfl) (by simp only [List.map_toArray, List.map_cons, List.map_nil, Act.eval]; rfl) (ent_ok rfl rfl) (fun u hu => vint_Get.calls kf s 0 n1 a1 0 u h1) ?_
  intro w_ hb
  have g1 := g0.next hb
  clear hb g0 w0
  try walk_nrm
  have fr0 := cell_of (o := 0) g1.r
  have fr1 := cell_of (o := 1) g1.r
  have fr2 := cell_of (o := 2) g1.r
  have fr3 := cell_of (o := 3) g1.r
  have fs0 := cell_of (o := 0) g1.s
  have fs1 := cell_of (o := 1) g1.s
  have fs2 := cell_of (o := 2) g1.s
  have z_ : ∀ j, w_.frozen? ⟨N + 1, j, none⟩ = false := fun j => frozen_of g1.r
  simp only [zero27, List.getElem?_toArray, List.getElem?_cons_succ, List.getElem?_cons_zero, List.setIfInBounds_toArray, List.set_cons_succ, List.set_cons_zero] at fr0 fr1 fr2 fr3 fs0 fs1 fs2
  repeat (first
    | with_reducible refine gw_seq ?_
    | with_reducible refine gw_skip ?_
    | with_reducible refine gw_inBlock ?_
    | with_reducible refine gw_block ?_
    | with_reducible refine gw_loop ?_
    | with_reducible refine gw_inLoop ?_
    | with_reducible refine gw_region_end ?_
    | (refine gw_region _ rfl ?_; simp only [List.size_toArray, List.length_cons, List.length_nil, Nat.reduceAdd, Nat.zero_add, List.range, List.range.loop])
    | (refine gw_exit rfl ?_)
    | (refine gw_cond _ rfl ?_; simp only [if_true, if_false, Bool.false_eq_true, reduceIte, Bool.not_true, Bool.not_false, decide_true, decide_false, decide_eq_true_eq, not_true_eq_false, not_false_eq_true])
    | (refine gw_unwanted rfl (by rfl) ?_; try walk_nrm)
    | (refine gw_op rfl (by rfl) (by decide) rfl (fun K hK => ?_); go_simp; refine hK _ _ rfl ?_; clear hK K; try walk_nrm)
    )
  have g0 := g1.setr 0 (.int .i64 n1)
  simp only [zero27, List.setIfInBounds_toArray, List.set_cons_succ, List.set_cons_zero] at g0
  clear g1 fr0 fr1 fr2 fr3 fs0 fs1 fs2 z_
  revert g0
  generalize (w_.setCell _ _ : World) = w0
  intro g0
  clear w_
  refine gw_callB (args := #[.string s, .int .i64 a1]) (.tuple #[.int .i64 n2, .int .i64 a2, .int .i64 0]) rfl (by rfl) (by decide) rfl Try.func29 rfl (by kernel_rfl) (by simp only [List.map_toArray, List.map_cons, List.map_nil, Act.eval]; rfl) (ent_ok rfl rfl) (fun u hu => vint_Get.calls kf s a1 n2 a2 0 u h2) ?_
  intro w_ hb
  have g1 := g0.next hb
  clear hb g0 w0
  try walk_nrm
  have fr0 := cell_of (o := 0) g1.r
  have fr1 := cell_of (o := 1) g1.r
  have fr2 := cell_of (o := 2) g1.r
  have fr3 := cell_of (o := 3) g1.r
  have fs0 := cell_of (o := 0) g1.s
  have fs1 := cell_of (o := 1) g1.s
  have fs2 := cell_of (o := 2) g1.s
  have z_ : ∀ j, w_.frozen? ⟨N + 1, j, none⟩ = false := fun j => frozen_of g1.r
  simp only [zero27, List.getElem?_toArray, List.getElem?_cons_succ, List.getElem?_cons_zero, List.setIfInBounds_toArray, List.set_cons_succ, List.set_cons_zero] at fr0 fr1 fr2 fr3 fs0 fs1 fs2
  repeat (first
    | with_reducible refine gw_seq ?_
    | with_reducible refine gw_skip ?_
    | with_reducible refine gw_inBlock ?_
    | with_reducible refine gw_block ?_
    | with_reducible refine gw_loop ?_
    | with_reducible refine gw_inLoop ?_
    | with_reducible refine gw_region_end ?_
    | (refine gw_region _ rfl ?_; simp only [List.size_toArray, List.length_cons, List.length_nil, Nat.reduceAdd, Nat.zero_add, List.range, List.range.loop])
    | (refine gw_exit rfl ?_)
    | (refine gw_cond _ rfl ?_; simp only [if_true, if_false, Bool.false_eq_true, reduceIte, Bool.not_true, Bool.not_false, decide_true, decide_false, decide_eq_true_eq, not_true_eq_false, not_false_eq_true])
    | (refine gw_unwanted rfl (by rfl) ?_; try walk_nrm)
    | (refine gw_op rfl (by rfl) (by decide) rfl (fun K hK => ?_); go_simp; refine hK _ _ rfl ?_; clear hK K; try walk_nrm)
    )
  have g0 := g1.setr 1 (.int .i64 n2)
  simp only [zero27, List.setIfInBounds_toArray, List.set_cons_succ, List.set_cons_zero] at g0
  clear g1 fr0 fr1 fr2 fr3 fs0 fs1 fs2 z_
  revert g0
  generalize (w_.setCell _ _ : World) = w0
  intro g0
  clear w_
  refine gw_callB (args := #[.string s, .int .i64 a2]) (.tuple #[.int .i64 n3, .int .i64 a3, .int .i64 0]) rfl (by rfl) (by decide) rfl Try.func29 rfl (by kernel_rfl) (by simp only [List.map_toArray, List.map_cons, List.map_nil, Act.eval]; rfl) (ent_ok rfl rfl) (fun u hu => vint_Get.calls kf s a2 n3 a3 0 u h3) ?_
  intro w_ hb
  have g1 := g0.next hb
  clear hb g0 w0
  try walk_nrm
  have fr0 := cell_of (o := 0) g1.r
  have fr1 := cell_of (o := 1) g1.r
  have fr2 := cell_of (o := 2) g1.r
  have fr3 := cell_of (o := 3) g1.r
  have fs0 := cell_of (o := 0) g1.s
  have fs1 := cell_of (o := 1) g1.s
  have fs2 := cell_of (o := 2) g1.s
  have z_ : ∀ j, w_.frozen? ⟨N + 1, j, none⟩ = false := fun j => frozen_of g1.r
  simp only [zero27, List.getElem?_toArray, List.getElem?_cons_succ, List.getElem?_cons_zero, List.setIfInBounds_toArray, List.set_cons_succ, List.set_cons_zero] at fr0 fr1 fr2 fr3 fs0 fs1 fs2
  repeat (first
    | with_reducible refine gw_seq ?_
    | with_reducible refine gw_skip ?_
    | with_reducible refine gw_inBlock ?_
    | with_reducible refine gw_block ?_
    | with_reducible refine gw_loop ?_
    | with_reducible refine gw_inLoop ?_
    | with_reducible refine gw_region_end ?_
    | (refine gw_region _ rfl ?_; simp only [List.size_toArray, List.length_cons, List.length_nil, Nat.reduceAdd, Nat.zero_add, List.range, List.range.loop])
    | (refine gw_exit rfl ?_)
    | (refine gw_cond _ rfl ?_; simp only [if_true, if_false, Bool.false_eq_true, reduceIte, Bool.not_true, Bool.not_false, decide_true, decide_false, decide_eq_true_eq, not_true_eq_false, not_false_eq_true])
    | (refine gw_unwanted rfl (by rfl) ?_; try walk_nrm)
    | (refine gw_op rfl (by rfl) (by decide) rfl (fun K hK => ?_); go_simp; refine hK _ _ rfl ?_; clear hK K; try walk_nrm)
    )
  have g0 := g1.setr 2 (.int .i64 n3)
  simp only [zero27, List.setIfInBounds_toArray, List.set_cons_succ, List.set_cons_zero] at g0
  clear g1 fr0 fr1 fr2 fr3 fs0 fs1 fs2 z_
  revert g0
  generalize (w_.setCell _ _ : World) = w0
  intro g0
  clear w_
  refine gw_callB (args := #[.string s, .int .i64 a3]) (.tuple #[.string t, .int .i64 a4, .int .i64 e4]) rfl (by rfl) (by decide) rfl Try.func30 rfl (by kernel_rfl) (by simp only [List.map_toArray, List.map_cons, List.map_nil, Act.eval]; rfl) (ent_ok rfl rfl) (fun u hu => vint_GetText.calls kf s a3 t a4 e4 u h4) ?_
  intro w_ hb
  have g1 := g0.next hb
  clear hb g0 w0
  try walk_nrm
  have fr0 := cell_of (o := 0) g1.r
  have fr1 := cell_of (o := 1) g1.r
  have fr2 := cell_of (o := 2) g1.r
  have fr3 := cell_of (o := 3) g1.r
  have fs0 := cell_of (o := 0) g1.s
  have fs1 := cell_of (o := 1) g1.s
  have fs2 := cell_of (o := 2) g1.s
  have z_ : ∀ j, w_.frozen? ⟨N + 1, j, none⟩ = false := fun j => frozen_of g1.r
  simp only [zero27, List.getElem?_toArray, List.getElem?_cons_succ, List.getElem?_cons_zero, List.setIfInBounds_toArray, List.set_cons_succ, List.set_cons_zero] at fr0 fr1 fr2 fr3 fs0 fs1 fs2
  have y_ : ∀ j, w_.frozen? ⟨N, j, none⟩ = false := fun j => frozen_of g1.res
  have fq0 := cell_of (o := 0) g1.res
  have fq1 := cell_of (o := 1) g1.res
  have fq2 := cell_of (o := 2) g1.res
  have fq3 := cell_of (o := 3) g1.res
  simp only [zero27, List.getElem?_toArray, List.getElem?_cons_succ, List.getElem?_cons_zero] at fq0 fq1 fq2 fq3
  have hu27 := Try.underlying27
  have hu25 := Try.underlying25
  by_cases he : e4 = 0
  · subst he
    repeat (first
      | with_reducible refine gw_seq ?_
      | with_reducible refine gw_skip ?_
      | with_reducible refine gw_inBlock ?_
      | with_reducible refine gw_block ?_
      | with_reducible refine gw_loop ?_
      | with_reducible refine gw_inLoop ?_
      | with_reducible refine gw_region_end ?_
      | (refine gw_region _ rfl ?_; simp only [List.size_toArray, List.length_cons, List.length_nil, Nat.reduceAdd, Nat.zero_add, List.range, List.range.loop])
      | (refine gw_exit rfl ?_)
      | (refine gw_cond _ rfl ?_; simp only [if_true, if_false, Bool.false_eq_true, reduceIte, Bool.not_true, Bool.not_false, decide_true, decide_false, decide_eq_true_eq, not_true_eq_false, not_false_eq_true])
      | (refine gw_unwanted rfl (by rfl) ?_; try walk_nrm)
      | (refine gw_op rfl (by rfl) (by decide) rfl (fun K hK => ?_); go_simp; refine hK _ _ rfl ?_; clear hK K; try walk_nrm)
      )
    have g0 := g1.setr 3 (.string t)
    simp only [zero27, List.setIfInBounds_toArray, List.set_cons_succ, List.set_cons_zero] at g0
    clear g1 fr0 fr1 fr2 fr3 fs0 fs1 fs2 z_ y_ fq0 fq1 fq2 fq3
    revert g0
    generalize (w_.setCell _ _ : World) = w0
    intro g0
    clear w_
    revert g0
    revert w0
    intro w_ g1
    have fr0 := cell_of (o := 0) g1.r
    have fr1 := cell_of (o := 1) g1.r
    have fr2 := cell_of (o := 2) g1.r
    have fr3 := cell_of (o := 3) g1.r
    have fs0 := cell_of (o := 0) g1.s
    have fs1 := cell_of (o := 1) g1.s
    have fs2 := cell_of (o := 2) g1.s
    have z_ : ∀ j, w_.frozen? ⟨N + 1, j, none⟩ = false := fun j => frozen_of g1.r
    simp only [zero27, List.getElem?_toArray, List.getElem?_cons_succ, List.getElem?_cons_zero, List.setIfInBounds_toArray, List.set_cons_succ, List.set_cons_zero] at fr0 fr1 fr2 fr3 fs0 fs1 fs2
    have y_ : ∀ j, w_.frozen? ⟨N, j, none⟩ = false := fun j => frozen_of g1.res
    have fq0 := cell_of (o := 0) g1.res
    have fq1 := cell_of (o := 1) g1.res
    have fq2 := cell_of (o := 2) g1.res
    have fq3 := cell_of (o := 3) g1.res
    simp only [zero27, List.getElem?_toArray, List.getElem?_cons_succ, List.getElem?_cons_zero] at fq0 fq1 fq2 fq3
    repeat (first
      | with_reducible refine gw_seq ?_
      | with_reducible refine gw_skip ?_
      | with_reducible refine gw_inBlock ?_
      | with_reducible refine gw_block ?_
      | with_reducible refine gw_loop ?_
      | with_reducible refine gw_inLoop ?_
      | with_reducible refine gw_region_end ?_
      | (refine gw_region _ rfl ?_; simp only [List.size_toArray, List.length_cons, List.length_nil, Nat.reduceAdd, Nat.zero_add, List.range, List.range.loop])
      | (refine gw_exit rfl ?_)
      | (refine gw_cond _ rfl ?_; simp only [if_true, if_false, Bool.false_eq_true, reduceIte, Bool.not_true, Bool.not_false, decide_true, decide_false, decide_eq_true_eq, not_true_eq_false, not_false_eq_true])
      | (refine gw_unwanted rfl (by rfl) ?_; try walk_nrm)
      | (refine gw_op rfl (by rfl) (by decide) rfl (fun K hK => ?_); go_simp; refine hK _ _ rfl ?_; clear hK K; try walk_nrm)
      )
    refine gw_callB (args := #[.agg #[.int .i64 n1, .int .i64 n2, .int .i64 n3, .string t]]) (.tuple #[.string b, .int .i64 0]) rfl (by rfl) (by decide) rfl Try.func9 rfl (by kernel_rfl) (by simp only [List.map_toArray, List.map_cons, List.map_nil, Act.eval]; rfl) (ent_ok rfl rfl) (fun u hu => trace_Put.calls kf n1 n2 n3 t b 0 u (h5 rfl)) ?_
    intro w0 hb
    have g0 := g1.next hb
    clear hb g1 fr0 fr1 fr2 fr3 fs0 fs1 fs2 z_ y_ fq0 fq1 fq2 fq3 w_
    revert g0
    revert w0
    intro w_ g1
    try walk_nrm
    have fr0 := cell_of (o := 0) g1.r
    have fr1 := cell_of (o := 1) g1.r
    have fr2 := cell_of (o := 2) g1.r
    have fr3 := cell_of (o := 3) g1.r
    have fs0 := cell_of (o := 0) g1.s
    have fs1 := cell_of (o := 1) g1.s
    have fs2 := cell_of (o := 2) g1.s
    have z_ : ∀ j, w_.frozen? ⟨N + 1, j, none⟩ = false := fun j => frozen_of g1.r
    simp only [zero27, List.getElem?_toArray, List.getElem?_cons_succ, List.getElem?_cons_zero, List.setIfInBounds_toArray, List.set_cons_succ, List.set_cons_zero] at fr0 fr1 fr2 fr3 fs0 fs1 fs2
    have y_ : ∀ j, w_.frozen? ⟨N, j, none⟩ = false := fun j => frozen_of g1.res
    have fq0 := cell_of (o := 0) g1.res
    have fq1 := cell_of (o := 1) g1.res
    have fq2 := cell_of (o := 2) g1.res
    have fq3 := cell_of (o := 3) g1.res
    simp only [zero27, List.getElem?_toArray, List.getElem?_cons_succ, List.getElem?_cons_zero] at fq0 fq1 fq2 fq3
    by_cases hbs : b.toList = s.toList
    · skip
      repeat (first
        | with_reducible refine gw_seq ?_
        | with_reducible refine gw_skip ?_
        | with_reducible refine gw_inBlock ?_
        | with_reducible refine gw_block ?_
        | with_reducible refine gw_loop ?_
        | with_reducible refine gw_inLoop ?_
        | with_reducible refine gw_region_end ?_
        | (refine gw_region _ rfl ?_; simp only [List.size_toArray, List.length_cons, List.length_nil, Nat.reduceAdd, Nat.zero_add, List.range, List.range.loop])
        | (refine gw_exit rfl ?_)
        | (refine gw_cond _ rfl ?_; simp only [if_true, if_false, Bool.false_eq_true, reduceIte, Bool.not_true, Bool.not_false, decide_true, decide_false, decide_eq_true_eq, not_true_eq_false, not_false_eq_true, hbs])
        | (refine gw_unwanted rfl (by rfl) ?_; try walk_nrm)
        | (refine gw_op rfl (by rfl) (by decide) rfl (fun K hK => ?_); go_simp; refine hK _ _ rfl ?_; clear hK K; try walk_nrm)
        )
      have gz := ((((g1.sets 0 (.int .i64 n1)).sets 1 (.int .i64 n2)).sets 2 (.int .i64 n3)).sets 3 (.string t))
      simp only [zero27, List.setIfInBounds_toArray, List.set_cons_succ, List.set_cons_zero] at gz
      revert gz
      generalize (((w_.setCell _ _).setCell _ _).setCell _ _ : World) = wx
      revert wx
      clear g1 fr0 fr1 fr2 fr3 fs0 fs1 fs2 z_ y_ fq0 fq1 fq2 fq3
      clear w_
      intro w_ g1
      have fq0 := cell_of (o := 0) g1.res
      have fq1 := cell_of (o := 1) g1.res
      have fq2 := cell_of (o := 2) g1.res
      have fq3 := cell_of (o := 3) g1.res
      simp only [zero27, List.getElem?_toArray, List.getElem?_cons_succ, List.getElem?_cons_zero] at fq0 fq1 fq2 fq3
      obtain ⟨rfl, rfl⟩ : res = #[.int .i64 n1, .int .i64 n2, .int .i64 n3, .string t] ∧ er = 0 := by
        rcases hres with ⟨h, _⟩ | ⟨_, h, _⟩ | ⟨_, _, h⟩
        · exact absurd rfl h
        · exact absurd hbs h
        · exact h
      refine gw_ret (gw_leaveAt rfl rfl Try.func14 (results_ct (ad := ⟨N, 0, none⟩) rfl rfl (v := .agg #[.int .i64 n1, .int .i64 n2, .int .i64 n3, .string t]) ?_) (hn _ g1.below))
      go_simp
    · have hbq : (b.toList == s.toList) = false := by simpa using hbs
      repeat (first
        | with_reducible refine gw_seq ?_
        | with_reducible refine gw_skip ?_
        | with_reducible refine gw_inBlock ?_
        | with_reducible refine gw_block ?_
        | with_reducible refine gw_loop ?_
        | with_reducible refine gw_inLoop ?_
        | with_reducible refine gw_region_end ?_
        | (refine gw_region _ rfl ?_; simp only [List.size_toArray, List.length_cons, List.length_nil, Nat.reduceAdd, Nat.zero_add, List.range, List.range.loop])
        | (refine gw_exit rfl ?_)
        | (refine gw_cond _ rfl ?_; simp only [if_true, if_false, Bool.false_eq_true, reduceIte, Bool.not_true, Bool.not_false, decide_true, decide_false, decide_eq_true_eq, not_true_eq_false, not_false_eq_true, hbq])
        | (refine gw_unwanted rfl (by rfl) ?_; try walk_nrm)
        | (refine gw_op rfl (by rfl) (by decide) rfl (fun K hK => ?_); go_simp; refine hK _ _ rfl ?_; clear hK K; try walk_nrm)
        )
      have gz := ((((g1.sets 0 (.int .i64 0)).sets 1 (.int .i64 0)).sets 2 (.int .i64 0)).sets 3 (.string ⟨#[]⟩))
      simp only [zero27, List.setIfInBounds_toArray, List.set_cons_succ, List.set_cons_zero] at gz
      revert gz
      generalize (((w_.setCell _ _).setCell _ _).setCell _ _ : World) = wx
      revert wx
      clear g1 fr0 fr1 fr2 fr3 fs0 fs1 fs2 z_ y_ fq0 fq1 fq2 fq3
      clear w_
      intro w_ g1
      have fq0 := cell_of (o := 0) g1.res
      have fq1 := cell_of (o := 1) g1.res
      have fq2 := cell_of (o := 2) g1.res
      have fq3 := cell_of (o := 3) g1.res
      simp only [zero27, List.getElem?_toArray, List.getElem?_cons_succ, List.getElem?_cons_zero] at fq0 fq1 fq2 fq3
      obtain ⟨rfl, rfl⟩ : res = zero27 ∧ er = 4 := by
        rcases hres with ⟨h, _⟩ | ⟨_, _, h⟩ | ⟨_, h, _⟩
        · exact absurd rfl h
        · exact h
        · exact absurd h hbs
      refine gw_ret (gw_leaveAt rfl rfl Try.func14 (results_ct (ad := ⟨N, 0, none⟩) rfl rfl (v := .agg #[.int .i64 0, .int .i64 0, .int .i64 0, .string ⟨#[]⟩]) ?_) (hn _ g1.below))
      go_simp
  · have hne : (e4 != 0) = true := bne_iff_ne.2 he
    repeat (first
      | with_reducible refine gw_seq ?_
      | with_reducible refine gw_skip ?_
      | with_reducible refine gw_inBlock ?_
      | with_reducible refine gw_block ?_
      | with_reducible refine gw_loop ?_
      | with_reducible refine gw_inLoop ?_
      | with_reducible refine gw_region_end ?_
      | (refine gw_region _ rfl ?_; simp only [List.size_toArray, List.length_cons, List.length_nil, Nat.reduceAdd, Nat.zero_add, List.range, List.range.loop])
      | (refine gw_exit rfl ?_)
      | (refine gw_cond _ rfl ?_; simp only [if_true, if_false, Bool.false_eq_true, reduceIte, Bool.not_true, Bool.not_false, decide_true, decide_false, decide_eq_true_eq, not_true_eq_false, not_false_eq_true, hne, he])
      | (refine gw_unwanted rfl (by rfl) ?_; try walk_nrm)
      | (refine gw_op rfl (by rfl) (by decide) rfl (fun K hK => ?_); go_simp; refine hK _ _ rfl ?_; clear hK K; try walk_nrm)
      )
    have gz := ((((g1.sets 0 (.int .i64 0)).sets 1 (.int .i64 0)).sets 2 (.int .i64 0)).sets 3 (.string ⟨#[]⟩))
    simp only [zero27, List.setIfInBounds_toArray, List.set_cons_succ, List.set_cons_zero] at gz
    revert gz
    generalize (((w_.setCell _ _).setCell _ _).setCell _ _ : World) = wx
    revert wx
    clear g1 fr0 fr1 fr2 fr3 fs0 fs1 fs2 z_ y_ fq0 fq1 fq2 fq3
    clear w_
    intro w_ g1
    have fq0 := cell_of (o := 0) g1.res
    have fq1 := cell_of (o := 1) g1.res
    have fq2 := cell_of (o := 2) g1.res
    have fq3 := cell_of (o := 3) g1.res
    simp only [zero27, List.getElem?_toArray, List.getElem?_cons_succ, List.getElem?_cons_zero] at fq0 fq1 fq2 fq3
    obtain ⟨rfl, rfl⟩ : res = zero27 ∧ er = 4 := by
      rcases hres with ⟨_, h⟩ | ⟨h, _⟩ | ⟨h, _⟩
      · exact h
      · exact absurd h he
      · exact absurd h he
    refine gw_ret (gw_leaveAt rfl rfl Try.func14 (results_ct (ad := ⟨N, 0, none⟩) rfl rfl (v := .agg #[.int .i64 0, .int .i64 0, .int .i64 0, .string ⟨#[]⟩]) ?_) (hn _ g1.below))
    go_simp
end Go.Proofs.Ytmdcpmfanpopgaa
/- More rules: a region that asks the tape for its order. -/
namespace Go.Proofs.Ytmdcpmfanpopgaa
open Go Go.Conc Go.RowKit
set_option linter.unusedSimpArgs false
set_option linter.unusedVariables false
section
variable {P : Program} {main : Bool} {Stop : Goroutine → World → Prop} {b : Frame} {a : Act} {k : List Item} {cs : List Frame} {w : World} {ops : Array Oper} {i : Nat} {rest : List Nat}

theorem terms_at : Terms AtRel DM := ⟨fun _ _ _ ⟨d, h⟩ ⟨d', h'⟩ => ⟨d', by rw [h', h]; rfl⟩, dm_refl⟩

/-- One operation of the calculus with a rely, as a step of the walk. -/
theorem gw_opC {K : Act → World → Prop} (hk : b.kind ≠ .early) (h : OpC P AtRel DM b.fn ops i K a w) (hn : ∀ a' w', K a' w' → GoesW P main DM Stop (G (b.at a' (.inRegion ops rest :: k)) cs) w') :
    GoesW P main DM Stop (G (b.at a (.inRegion ops (i :: rest) :: k)) cs) w := by
  unfold OpC at h
  split at h
  · exact h.elim
  · rename_i o ho
    split at h
    · rename_i hw
      refine GoesW.steps rfl fun d => ?_
      have hd := h (w.at d) ⟨d, rfl⟩
      generalize hrun : (execOp a.eval o).run P (w.at d) = r at hd
      cases r with
      | ok n w' =>
        cases n with
        | value v => exact ⟨_, w', _, stepG_value ho hw hk hrun, hd.1, hn _ _ hd.2⟩
        | skip => exact ⟨_, w', _, stepG_none ho hw hk hrun, hd.1, hn _ _ hd.2⟩
        | _ => exact hd.elim
      | halt => exact hd.elim
    · rename_i hw
      exact gw_unwanted ho (by simpa using hw) (hn _ _ h)

theorem gw_linear {Q : Exit → Act → World → Prop} {S : World → Prop} {md : Region.Mode} (hk : b.kind ≠ .early) (hQ : ∀ a' w', Q .normal a' w' → GoesW P main DM Stop (G (b.at a' k) cs) w') :
    ∀ (fuel t : Nat) (listed : Array Bool) (a : Act) (w : World), AnyCH P AtRel DM b.fn md ops Q S fuel listed a w → GoesW P main DM Stop (G (b.at a (.inRegion ops (Region.linearise.go md ops fuel t listed []) :: k)) cs) w := by
  intro fuel
  induction fuel with
  | zero => intro t listed a w h; simpa [Region.linearise.go] using gw_region_end (hQ _ _ h.2)
  | succ fuel ih =>
    intro t listed a w h
    obtain ⟨h₀, h₁⟩ := h
    simp only [Region.linearise.go]
    change GoesW P main DM Stop (G (b.at a (.inRegion ops (match (Region.ready md ops listed)[t % (Region.ready md ops listed).length]? with
      | some i => Region.linearise.go md ops fuel (t / (Region.ready md ops listed).length) (listed.setIfInBounds i true) [i]
      | none => [].reverse) :: k)) cs) w
    cases hi : (Region.ready md ops listed)[t % (Region.ready md ops listed).length]? with
    | none =>
      have hnil : Region.ready md ops listed = [] := by
        cases hr : Region.ready md ops listed with
        | nil => rfl
        | cons x xs =>
          rw [hr] at hi
          have hlt : t % (x :: xs).length < (x :: xs).length := Nat.mod_lt _ (by simp)
          simp at hi
          simp at hlt
          omega
      simpa using gw_region_end (hQ _ _ (h₀ hnil))
    | some i =>
      simp only []
      rw [linearise_go_acc, List.reverse_singleton, List.singleton_append]
      exact gw_opC hk (h₁ i (List.mem_of_getElem? hi)) fun a' w' x => ih _ _ a' w' x.2

/-- A REGION THAT ASKS THE TAPE FOR ITS ORDER. -/
theorem gw_draw {Q : Exit → Act → World → Prop} {S : World → Prop} {id : Nat} (hm : P.follows .mixedOrders = true) (hk : b.kind ≠ .early) (h : ∀ d, AnyCH P AtRel DM b.fn .any ops Q S ops.size (Array.replicate ops.size false) a (w.at d))
    (hQ : ∀ a' w', Q .normal a' w' → GoesW P main DM Stop (G (b.at a' k) cs) w') : GoesW P main DM Stop (G (b.at a (.code (.region id ops true) :: k)) cs) w := by
  refine .step (fun d => G (b.at a (.inRegion ops (Region.schedule (P.follows .mixedOrders) ops (w.tape d (.order b.fn id))) :: k)) cs) (fun d => w.at (d + 1)) (fun _ => #[]) rfl (fun d => stepG_region_draw) (fun d => ⟨⟨rfl, rfl, rfl, Nat.le_refl _, fun _ _ _ _ _ _ _ e => e⟩, by simp⟩) fun d => ?_
  simp only [Region.schedule, hm, Bool.true_or, if_true]
  exact gw_linear hk hQ ops.size _ _ a _ (h (d + 1))

theorem dm_listed {o : Oper} (hp : plainOp o.op = true) {n : Next} {w' : World} {fn : FuncId} (hr : (execOp a.eval o).run P w = .ok n w') : DM w w' (listed P fn a o w) := by
  obtain ⟨r, es, m, R⟩ := (tame_plain (P := P) a.eval hp).runs w #[]
  have hrun : (execOp a.eval o).run P w = r := by
    have := congrArg Prod.fst R.run
    rw [Sem.runT_eq] at this
    exact this
  have hev : (execOp a.eval o).events P w #[] = es := by
    have := congrArg Prod.snd R.run
    rw [Sem.runT_eq] at this
    simpa using this
  rw [hr] at hrun
  subst hrun
  exact ⟨R.mild, fun e he => R.evs e (by have := mem_listed he; rw [hev] at this; exact this)⟩

/-- An operation of a region without an order: a plain one. -/
theorem opC_plain {o : Oper} {K : Act → World → Prop} {fn : FuncId} (ho : ops[i]? = some o) (hw : Region.wanted o (yielded ops a.tmps) = true) (hp : plainOp o.op = true) (h : ∀ d, uponK o a K ((execOp a.eval o).run P (w.at d))) : OpC P AtRel DM fn ops i K a w := by
  unfold OpC
  simp only [ho, hw, if_true]
  rintro w₁ ⟨d, rfl⟩
  have hd := h d
  generalize hr : (execOp a.eval o).run P (w.at d) = r at hd
  cases r with
  | ok n w' =>
    have := dm_listed (fn := fn) hp hr
    cases n <;> first | exact ⟨this, hd⟩ | exact hd.elim
  | halt => exact hd.elim
theorem opC_k {o : Oper} {K : Act → World → Prop} {fn : FuncId} (ho : ops[i]? = some o) (hw : Region.wanted o (yielded ops a.tmps) = true) (hp : plainOp o.op = true)
    (h : ∀ d, ∀ K' : Act → World → Prop, (∀ a' w', K a' w' → K' a' w') → uponK o a K' ((execOp a.eval o).run P (w.at d))) : OpC P AtRel DM fn ops i K a w := opC_plain ho hw hp fun d => h d K fun _ _ x => x
theorem yields_plain {o : Oper} {S : World → Prop} {fn : FuncId} {v : Value} (hw : Region.wanted o (yielded ops a.tmps) = true) (hp : plainOp o.op = true) (h : ∀ w, S w → (execOp a.eval o).run P w = .ok (.value v) w) : YieldsIfC P DM fn ops S o v a :=
  .inl ⟨hw, fun w hS => ⟨h w hS, dm_listed hp (h w hS)⟩⟩
end
theorem followsMixed : Try.prog.follows .mixedOrders = true := by kernel_rfl
theorem at_keeps : ∀ x y : World, (fun _ : World => True) x → AtRel x y → (fun _ : World => True) y := fun _ _ _ _ => trivial
end Go.Proofs.Ytmdcpmfanpopgaa
/- Decode: from its entry to its go statement; behind it to its seat. -/
namespace Go.Proofs.Ytmdcpmfanpopgaa
open Go Go.Conc Go.RowKit
set_option linter.unusedSimpArgs false
set_option linter.unusedVariables false

def rgt : Code → Code | .seq _ y => y | c => c
def lft : Code → Code | .seq x _ => x | c => c
def inn : Code → Code | .block _ c => c | .loop c => c | c => c
def regOps : Code → Array Oper | .region _ o _ => o | _ => #[]

abbrev newChan : Obj := .chan 0 #[] false 0 0 false
/-- Two new channels. -/
def two (W : World) : World := (W.alloc newChan).alloc newChan

noncomputable def c18 : Code := Try.f18.body.getD .skip
noncomputable def rest18 : Code := rgt (rgt (rgt (rgt c18)))
/-- The loop's body; what follows the loop. -/
noncomputable def loop18 : Code := inn (inn (rgt (lft rest18)))
noncomputable def ret18 : Code := rgt rest18
noncomputable def ops18 : Array Oper := regOps (lft loop18)
noncomputable def todo18 : List Item := [.inRegion ops18 [0, 1], .code (rgt loop18), .inLoop loop18, .inBlock 0, .code ret18]
def zero79 : Value := .agg #[.int .i64 0, .int .i64 0, .int .i64 0, .string ⟨#[]⟩, .int .i64 0, .int .i64 0]
def closeD (ce : Nat) : Deferred := { target := .builtin .close #[76] 0 #[false], args := #[.chan (some ce)] }
def tellD (s : ByteArray) (cin ce : Nat) : Deferred := { target := .fn (.func 34) #[], args := #[.string s, .chan (some cin), .chan (some ce)] }
/-- Decode at its receive. -/
noncomputable def R18 (T : Array Value) (ce : Nat) (c : Frame) (cs : List Frame) : Goroutine := G ((base 18).at ⟨T, [closeD ce]⟩ todo18) (c :: cs)
/-- The temporaries at the first receive; later. -/
def T18 (s : ByteArray) (cin ce : Nat) : Array Value := #[.string s, undef, .slice none 0 0, .int .i64 0, .int .i64 0, .chan (some cin), .chan (some ce), undef, .chan (some cin), .chan (some ce), .chan (some ce), .string s, .chan (some cin), .chan (some ce), .chan (some cin), undef, undef, undef, undef, undef, undef, undef, undef, undef, undef, undef, undef, undef, undef, undef, undef, undef, undef, undef, undef, undef]
noncomputable def seat18 (T : Array Value) (cin ce : Nat) (c : Frame) (cs : List Frame) : Seat := Seat.one cin zero79 true fun g => g = R18 T ce c cs

def recvOp : Oper := { dst := some 15, op := .recv 75 (.tmp 14) true, type := 0, pos := "trace.go:121", after := #[], guard := none }
theorem at18 {K : World → Prop} {Still : Loc → Prop} {B : Nat} {T : Array Value} {cin : Nat} (hT : T.getD 14 undef = .chan (some cin)) (ce : Nat) (c : Frame) (cs : List Frame) : AtIn Try.prog true K Still B (seat18 T cin ce c cs) (R18 T ce c cs) (R18 T ce c cs) := by
  have hT' : T[14]?.getD undef = .chan (some cin) := by rw [← hT, Array.getD_eq_getD_getElem?]
  exact atIn_of (o := recvOp) (s := seat18 T cin ce c cs) rfl rfl (by decide) (fun w => by simp [go_sem, execOp, rcase, Act.eval, seat18, Seat.one, recvOp, hT', zero79]) (fun w => by simp [go_sem, execOp, Act.eval, recvOp, hT']) rfl

/-- What Decode comes to first: its go statement; behind it it goes to its seat. -/
def AtGo (s : ByteArray) (c : Frame) (cs : List Frame) (W : World) (g : Goroutine) (w : World) : Prop :=
  ∃ cin ce, (cin = W.heap.size ∧ ce = W.heap.size + 1 ∨ cin = W.heap.size + 1 ∧ ce = W.heap.size) ∧ (∃ d, w = (two W).at d) ∧ g.status = .running ∧
    ∃ g', (∀ u, stepG Try.prog true g u = .spawn g' (born Try.prog (tellD s cin ce)) u #[]) ∧ ∀ B, Sits Try.prog true KT NoStill B (seat18 (T18 s cin ce) cin ce c cs) 11 g'

set_option maxHeartbeats 4000000 in
set_option maxRecDepth 100000 in
theorem dec_walk (s : ByteArray) (c : Frame) (cs : List Frame) (W : World) : GoesW Try.prog true DM (AtGo s c cs W) (G (Frame.enter Try.prog 18 #[.string s] .normal) (c :: cs)) W := by
  refine gw_enter Try.func18 rfl ?_
  simp only [Try.f18]
  walk_nrm
  refine gw_seq ?_
  refine gw_region _ rfl ?_
  simp only [List.size_toArray, List.length_cons, List.length_nil, Nat.reduceAdd, Nat.zero_add, List.range, List.range.loop]
  iterate 3 (refine gw_op rfl (by rfl) (by decide) rfl (fun K hK => ?_); go_simp; refine hK _ _ rfl ?_; clear hK K; try walk_nrm)
  refine gw_region_end ?_
  refine gw_seq ?_
  refine gw_draw (S := fun _ => True) (Q := fun _ a' w' => ∃ cin ce, (cin = W.heap.size ∧ ce = W.heap.size + 1 ∨ cin = W.heap.size + 1 ∧ ce = W.heap.size) ∧ (∃ d, w' = (two W).at d) ∧
    a' = ⟨#[.string s, undef, .slice none 0 0, .int .i64 0, .int .i64 0, .chan (some cin), .chan (some ce), undef, .chan (some cin), .chan (some ce), undef, undef, undef, undef, undef, undef, undef, undef, undef, undef, undef, undef, undef, undef, undef, undef, undef, undef, undef, undef, undef, undef, undef, undef, undef, undef], []⟩) followsMixed (by decide) (fun d => ?_) ?_
  · refine anyCH_all (rs := [0, 1]) (by kernel_rfl) (by simp) ?_
    intro i hi
    simp only [List.mem_cons, List.not_mem_nil, or_false] at hi
    rcases hi with rfl | rfl
    · refine opC_k rfl rfl rfl (fun d' K' hK => ?_)
      go_simp
      refine hK _ _ ?_
      clear hK K'
      refine ⟨trivial, ?_⟩
      walk_nrm
      refine anyCH_take (i := 2) (v := .chan (some W.heap.size)) terms_at at_keeps (fun _ _ _ h r => ?_) rfl (by kernel_rfl) (by kernel_rfl) (by kernel_rfl) (yields_plain rfl rfl fun w _ => by go_simp) trivial ?_
      · obtain ⟨cin, ce, h1, ⟨d1, h2⟩, h3⟩ := h
        obtain ⟨d2, rfl⟩ := r
        exact ⟨cin, ce, h1, ⟨d2, by rw [h2]; rfl⟩, h3⟩
      walk_nrm
      refine anyCH_all (rs := [1]) (by kernel_rfl) (by simp) ?_
      intro i hi
      simp only [List.mem_cons, List.not_mem_nil, or_false] at hi
      subst hi
      refine opC_k rfl rfl rfl (fun d2 K' hK => ?_)
      go_simp
      refine hK _ _ ?_
      clear hK K'
      refine ⟨trivial, ?_⟩
      walk_nrm
      refine anyCH_take (i := 3) (v := .chan (some (W.heap.size + 1))) terms_at at_keeps (fun _ _ _ h r => ?_) rfl (by kernel_rfl) (by kernel_rfl) (by kernel_rfl) (yields_plain rfl rfl fun w _ => by simp [go_sem, execOp, Act.eval, World.at, World.alloc]) trivial ?_
      · obtain ⟨cin, ce, h1, ⟨d1, h2⟩, h3⟩ := h
        obtain ⟨d2, rfl⟩ := r
        exact ⟨cin, ce, h1, ⟨d2, by rw [h2]; rfl⟩, h3⟩
      walk_nrm
      refine anyCH_done (by kernel_rfl) ⟨W.heap.size, W.heap.size + 1, .inl ⟨rfl, rfl⟩, ⟨d2, rfl⟩, ?_⟩ _
      simp [World.at, World.alloc]
    · refine opC_k rfl rfl rfl (fun d' K' hK => ?_)
      go_simp
      refine hK _ _ ?_
      clear hK K'
      refine ⟨trivial, ?_⟩
      walk_nrm
      refine anyCH_all (rs := [0]) (by kernel_rfl) (by simp) ?_
      intro i hi
      simp only [List.mem_cons, List.not_mem_nil, or_false] at hi
      subst hi
      refine opC_k rfl rfl rfl (fun d2 K' hK => ?_)
      go_simp
      refine hK _ _ ?_
      clear hK K'
      refine ⟨trivial, ?_⟩
      walk_nrm
      refine anyCH_take (i := 2) (v := .chan (some (W.heap.size + 1))) terms_at at_keeps (fun _ _ _ h r => ?_) rfl (by kernel_rfl) (by kernel_rfl) (by kernel_rfl) (yields_plain rfl rfl fun w _ => by simp [go_sem, execOp, Act.eval, World.at, World.alloc]) trivial ?_
      · obtain ⟨cin, ce, h1, ⟨d1, h2⟩, h3⟩ := h
        obtain ⟨d2, rfl⟩ := r
        exact ⟨cin, ce, h1, ⟨d2, by rw [h2]; rfl⟩, h3⟩
      walk_nrm
      refine anyCH_take (i := 3) (v := .chan (some W.heap.size)) terms_at at_keeps (fun _ _ _ h r => ?_) rfl (by kernel_rfl) (by kernel_rfl) (by kernel_rfl) (yields_plain rfl rfl fun w _ => by simp [go_sem, execOp, Act.eval, World.at, World.alloc]) trivial ?_
      · obtain ⟨cin, ce, h1, ⟨d1, h2⟩, h3⟩ := h
        obtain ⟨d2, rfl⟩ := r
        exact ⟨cin, ce, h1, ⟨d2, by rw [h2]; rfl⟩, h3⟩
      walk_nrm
      refine anyCH_done (by kernel_rfl) ⟨W.heap.size + 1, W.heap.size, .inr ⟨rfl, rfl⟩, ⟨d2, rfl⟩, ?_⟩ _
      simp [World.at, World.alloc]
  · rintro a' w' ⟨cin, ce, hcc, ⟨d, rfl⟩, rfl⟩
    refine gw_seq ?_
    refine gw_region _ rfl ?_
    simp only [List.size_toArray, List.length_cons, List.length_nil, Nat.reduceAdd, Nat.zero_add, List.range, List.range.loop]
    refine gw_op rfl (by rfl) (by decide) rfl (fun K hK => ?_)
    go_simp; refine hK _ _ rfl ?_; clear hK K; try walk_nrm
    refine gw_defer rfl (by rfl) (by decide) rfl ?_
    walk_nrm
    refine gw_region_end ?_
    refine gw_seq ?_
    refine gw_region _ rfl ?_
    simp only [List.size_toArray, List.length_cons, List.length_nil, Nat.reduceAdd, Nat.zero_add, List.range, List.range.loop]
    iterate 3 (refine gw_op rfl (by rfl) (by decide) rfl (fun K hK => ?_); go_simp; refine hK _ _ rfl ?_; clear hK K; try walk_nrm)
    refine .stop fun dd => ⟨cin, ce, hcc, ⟨dd, rfl⟩, rfl, ?_⟩
    apply Exists.intro
    refine ⟨fun u => ?_, fun B => ?_⟩
    · rw [stepG_spawn (d := tellD s cin ce) rfl rfl (by decide) (show _ = Result.ok (Next.spawn (tellD s cin ce)) u by simp [go_sem, execOp, Act.eval, tellD]) rfl, listed_none (by simp [go_sem, execOp, Act.eval])]
    · refine .inl ⟨10, default, rfl, ?_⟩
      walk_nrm
      k_c stepG_region_end
      k_c stepG_seq
      k_c stepG_seq
      k_reg
      k_in
      refine goes_oper_k rfl rfl (by decide) (fun K hK => ?_)
      go_simp
      refine hK _ _ ⟨⟨rfl, fun e he => ?_⟩, ?_⟩
      · have hm := mem_listed he
        simp [go_sem] at hm
      clear hK K
      k_c stepG_region_end
      k_c stepG_block
      k_c stepG_loop
      k_c stepG_seq
      k_reg
      exact fun _ _ => ⟨_, at18 (T := T18 s cin ce) rfl ce c cs⟩
end Go.Proofs.Ytmdcpmfanpopgaa
/- More rules: entering a function by a call; what lies in a block through stores. -/
namespace Go.Proofs.Ytmdcpmfanpopgaa
open Go Go.Conc Go.RowKit
set_option linter.unusedSimpArgs false
set_option linter.unusedVariables false
section
variable {P : Program} {main : Bool} {Stop : Goroutine → World → Prop} {b : Frame} {a : Act} {k : List Item} {cs : List Frame} {w : World} {ops : Array Oper} {i : Nat} {rest : List Nat} {o : Oper}

/-- A call entered. -/
theorem gw_into {f : FuncId} {fn : Func} {xs : Array Operand} {ats : Array TypeId} {args : Array Value} (ho : ops[i]? = some o) (hw : Region.wanted o (yielded ops a.tmps) = true) (hk : b.kind ≠ .early)
    (hop : o.op = .call { callee := .value (.func f), args := xs, argTypes := ats }) (hf : P.funcs[f]? = some fn) (hb : fn.body.isSome = true) (hname : (fn.name == "runtime.NumGoroutine") = false) (hargs : xs.map a.eval = args)
    (hn : GoesW P main DM Stop (G (Frame.enter P f args .normal) (b.at a (.inRegion ops (i :: rest) :: k) :: cs)) w) : GoesW P main DM Stop (G (b.at a (.inRegion ops (i :: rest) :: k)) cs) w := by
  have ef : a.eval (.func f) = .func (.func f) #[] #[] := rfl
  have hrunc : ∀ u : World, (callFunc f args).run P u = .ok (.enter f args) u ∧ (callFunc f args).events P u #[] = #[] := by
    intro u
    obtain ⟨c, hc⟩ := Option.isSome_iff_exists.1 hb
    have h1 : ¬ fn.name = "runtime.NumGoroutine" := by simpa using hname
    constructor <;> simp [callFunc, hf, hc, h1]
  have hr : ∀ u : World, (execOp a.eval o).run P u = .ok (.enter f args) u := by
    intro u
    unfold execOp
    simp only [hop]
    simp [resolve, Deferred.ofValue, ef, invoke, hargs, (hrunc u).1]
  have he : ∀ u : World, (execOp a.eval o).events P u #[] = #[] := by
    intro u
    unfold execOp
    simp only [hop]
    simp [resolve, Deferred.ofValue, ef, invoke, hargs, (hrunc u).2]
  have hk' : (b.kind == CallKind.early) = false := by simpa using hk
  refine gw_ctl (g' := G (Frame.enter P f args .normal) (b.at a (.inRegion ops (i :: rest) :: k) :: cs)) rfl (fun u => ?_) hn
  rw [stepG_oper ho hw]
  simp [stepG.apply, hr u, he u, G, Frame.at, hk', GStep.after, seen_none]
theorem finish_op {v : Value} (ho : ops[i]? = some o) : (b.at a (.inRegion ops (i :: rest) :: k)).finish v = b.at (a.put o.dst v) (.inRegion ops rest :: k) := by rw [Frame.finish_at, ho]; rfl

/-- The deferred close of an open channel. -/
theorem stepG_deferred_close {todo : List Item} {c cap s r : Nat} {buf : Array Value} {tm : Bool} {ty : TypeId} {ds : List Deferred} (hd : a.defers = { target := .builtin .close #[ty] 0 #[false], args := #[.chan (some c)] } :: ds)
    (hc : w.heap[c]? = some (.chan cap buf false s r tm)) (hq : (P.funcs[b.fn]?).any (·.norace) = false) :
    stepG P main (G { b.at a todo with mode := .returning } cs) w = .go (G { b.at ⟨a.tmps, ds⟩ todo with mode := .returning } cs) (w.setChan c cap buf true s r tm) (closeEvents c) := by
  have hr : (invoke (.builtin .close #[ty] 0 #[false]) #[.chan (some c)]).run P w = .ok (.value (.tuple #[])) (w.setChan c cap buf true s r tm) := by
    simp [go_sem, invoke, run_close_open _ _ hc, World.setChan]
  have he : (invoke (.builtin .close #[ty] 0 #[false]) #[.chan (some c)]).events P w #[] = closeEvents c := by
    simp [go_sem, invoke, events_close_open _ _ hc, closeEvents]
  have hse : seen P b.fn (closeEvents c) = closeEvents c := seen_eq hq (by intro e he f; simp only [closeEvents, List.mem_toArray, List.mem_cons, List.not_mem_nil, or_false] at he; rcases he with rfl | rfl <;> simp)
  rw [stepG_unwind (by simp)]
  unfold unwind
  simp only [Frame.at, hd, callDeferred]
  simp [hr, he, hse, GStep.after, G]
end
end Go.Proofs.Ytmdcpmfanpopgaa
/- Written by wip/tools/gentell.py: the walks of trace.tell, the goroutine that Decode starts. -/
namespace Go.Proofs.Ytmdcpmfanpopgaa
open Go Go.Conc Go.RowKit Go.Proofs.Ytmdcpmfanpopgaa.M Go.Proofs.YtmdcpmfanpopgaaW.PrintWords Go.Proofs.YtmdcpmfanpopgaaW.PrintLast Go.Proofs.YtmdcpmfanpopgaaW.PrintMore
set_option linter.unusedSimpArgs false
set_option linter.unusedVariables false

noncomputable def bot34 : Frame := { (default : Frame) with fn := Try.prog.funcs.size, defers := [], mode := .panicking [goexitEntry] }
noncomputable def c34 : Code := Try.f34.body.getD .skip
def closeIn (cin : Nat) : Deferred := { target := .builtin .close #[91] 0 #[false], args := #[.chan (some cin)] }
/-- tell, about to run its deferred close. -/
noncomputable def S34 (T : Array Value) (todo : List Item) (cin : Nat) : Goroutine := G { (baseD 34).at ⟨T, [closeIn cin]⟩ todo with mode := .returning } [bot34]
theorem loud34 : (Try.prog.funcs[(baseD 34).fn]?).any (·.norace) = false := by kernel_rfl

theorem quits34 (T : Array Value) (todo : List Item) : QuitsD Try.prog 2 0 (G { (baseD 34).at ⟨T, []⟩ todo with mode := .returning } [bot34]) := by
  refine QuitsD.ctl (g' := G bot34 []) rfl (fun w => ?_) ?_
  · simp [G, stepG, unwind, doReturn, results, Frame.at, baseD, bot34, Try.func34, Try.f34, seen, GStep.after, goexitEntry]
  refine QuitsD.ctl (g' := { G bot34 [] with status := .finished }) rfl (fun w => ?_) ⟨rfl, rfl⟩
  simp [G, stepG, unwind, bot34, goexitEntry, Frame.catches]
  rfl

theorem shut34 (T : Array Value) (todo : List Item) (cin : Nat) (w : World) : AtShut Try.prog false cin (fun g => QuitsD Try.prog 2 0 g) (S34 T todo cin) w :=
  ⟨rfl, rfl, _, rfl, fun cap k hc d => stepG_deferred_close (w := w.at d) rfl hc loud34, quits34 T todo⟩

theorem born34 (s : ByteArray) (cin ce : Nat) (w : World) : stepG Try.prog false (born Try.prog (tellD s cin ce)) w =
    .go (G ((baseD 34).at ⟨#[.string s, .chan (some cin), .chan (some ce)] ++ Array.replicate (79 - 3) undef, []⟩ [.code c34]) [bot34]) w #[] := by
  simp [born, tellD, stepG, unwind, callDeferred, invoke, callFunc, Try.func34, Try.f34, seen, GStep.after, G, Frame.enter, Frame.at, baseD, bot34, c34]

def RAll (l : List ByteArray) (n : Int) (v : Value) (w : World) : Prop := ∃ A c, v = .tuple #[.slice A l.length c, .int .i64 n, .int .i64 0] ∧ Kd.C Kd.string w A l.length l

set_option maxHeartbeats 8000000 in
set_option maxRecDepth 100000 in
/-- tell of an empty text: it comes to its deferred close at once. -/
theorem tell_empty {kf : Nat} (s : ByteArray) (hA : frame_All.f kf s = some ([], 0, 0)) (cin ce : Nat) (W : World) :
    GoesW Try.prog false DM (fun g w => AtShut Try.prog false cin (fun g => QuitsD Try.prog 2 0 g) g w ∧ Below W.heap.size W w) (born Try.prog (tellD s cin ce)) W := by
  refine gw_ctl rfl (fun u => born34 s cin ce u) ?_
  simp only [c34, Try.f34, Option.getD_some]
  walk_nrm
  refine gw_seq ?_
  refine gw_region _ rfl ?_
  simp only [List.size_toArray, List.length_cons, List.length_nil, Nat.reduceAdd, Nat.zero_add, List.range, List.range.loop]
  refine gw_op rfl (by rfl) (by decide) rfl (fun K hK => ?_)
  go_simp
  refine hK _ _ rfl ?_
  clear hK K
  try walk_nrm
  refine gw_defer rfl (by rfl) (by decide) rfl ?_
  walk_nrm
  repeat (first
    | with_reducible refine gw_seq ?_
    | with_reducible refine gw_skip ?_
    | with_reducible refine gw_inBlock ?_
    | with_reducible refine gw_block ?_
    | with_reducible refine gw_loop ?_
    | with_reducible refine gw_inLoop ?_
    | with_reducible refine gw_region_end ?_
    | (refine gw_region _ rfl ?_; simp only [List.size_toArray, List.length_cons, List.length_nil, Nat.reduceAdd, Nat.zero_add, List.range, List.range.loop])
    | (refine gw_exit rfl ?_)
    | (refine gw_cond _ rfl ?_; simp only [if_true, if_false, Bool.false_eq_true, reduceIte, Bool.not_true, Bool.not_false, decide_true, decide_false, decide_eq_true_eq, not_true_eq_false, not_false_eq_true])
    | (refine gw_unwanted rfl (by rfl) ?_; try walk_nrm)
    | (refine gw_op rfl (by rfl) (by decide) rfl (fun K hK => ?_); go_simp; refine hK _ _ rfl ?_; clear hK K; try walk_nrm)
    )
  refine gw_callR (args := #[.string s]) (RAll [] 0) (fun v u τ d h => h) rfl (by rfl) (by decide) rfl Try.func44 rfl (by kernel_rfl) (by simp only [List.map_toArray, List.map_cons, List.map_nil, Act.eval]; rfl) (ent_ok rfl rfl) (fun u hu => (frame_All.calls kf s [] 0 0 u hA).mono ?_) ?_
  · rintro e w' ⟨v0, rfl, hR, hb⟩
    obtain ⟨A, c, rfl, _, hC⟩ := Kd.R_reads hR
    exact ⟨_, rfl, ⟨A, c, rfl, hC⟩, hb⟩
  rintro v w1 ⟨A, cp, rfl, hC⟩ hb
  try walk_nrm
  repeat (first
    | with_reducible refine gw_seq ?_
    | with_reducible refine gw_skip ?_
    | with_reducible refine gw_inBlock ?_
    | with_reducible refine gw_block ?_
    | with_reducible refine gw_loop ?_
    | with_reducible refine gw_inLoop ?_
    | with_reducible refine gw_region_end ?_
    | (refine gw_region _ rfl ?_; simp only [List.size_toArray, List.length_cons, List.length_nil, Nat.reduceAdd, Nat.zero_add, List.range, List.range.loop])
    | (refine gw_exit rfl ?_)
    | (refine gw_cond _ rfl ?_; simp only [if_true, if_false, Bool.false_eq_true, reduceIte, Bool.not_true, Bool.not_false, decide_true, decide_false, decide_eq_true_eq, not_true_eq_false, not_false_eq_true])
    | (refine gw_unwanted rfl (by rfl) ?_; try walk_nrm)
    | (refine gw_op rfl (by rfl) (by decide) rfl (fun K hK => ?_); go_simp; refine hK _ _ rfl ?_; clear hK K; try walk_nrm)
    )
  exact gw_ret (.stop fun d => ⟨shut34 _ _ cin _, ⟨hb.os, hb.tape, hb.output, hb.size, hb.block⟩⟩)

/-- What tell holds of the world: the told record's block. -/
structure TS (W : World) (X : Nat) (xs : Array Value) (w : World) : Prop where
  low : W.heap.size ≤ X
  size : X + 1 ≤ w.heap.size
  below : Below W.heap.size W w
  x : w.heap[X]? = some (.cells xs 79 (0, 0))
theorem TS.next {W w w' : World} {X : Nat} {xs : Array Value} (h : TS W X xs w) (hb : Below w.heap.size w w') : TS W X xs w' :=
  ⟨h.low, Nat.le_trans h.size hb.size, below_step' h.below (by have := h.size; have := h.low; omega) hb, by rw [hb.block X (by have := h.size; omega)]; exact h.x⟩
theorem TS.set {W w : World} {X : Nat} {xs : Array Value} (h : TS W X xs w) (o : Nat) (v : Value) : TS W X (xs.setIfInBounds o v) (w.setCell ⟨X, o, none⟩ v) :=
  ⟨h.low, by rw [size_setCell']; exact h.size, h.below.setCell h.low v, heap_setCell_self h.x v⟩

/-- What A leans on behind the select: the told record's block stands. -/
abbrev KX (X : Nat) (xs : Array Value) (w : World) : Prop := w.heap[X]? = some (.cells xs 79 (0, 0))
/-- tell at its select; behind it it reads its record's error and goes to its deferred close. -/
def AtSel (W : World) (cin ce : Nat) (xs : Array Value) (g : Goroutine) (w : World) : Prop :=
  ∃ X, TS W X xs w ∧ g.status = .running ∧ ∃ a₂ z' ze, (∀ u, stepG Try.prog false g u = .comm a₂ #[scase cin (.agg xs) z', rcase ce ze] true .select u #[]) ∧
    ∀ (Still : Loc → Prop) (B : Nat), (∀ o, Still (.cell ⟨X, o, none⟩)) → X < B → ∀ u, Goes Try.prog false (RK (KX X xs)) (DS Still B) (AtShut Try.prog false cin fun g => QuitsD Try.prog 2 0 g) 60 (Go.Conc.served a₂ (commResult #[scase cin (.agg xs) z', rcase ce ze] .select 0 undef false)) u

set_option maxHeartbeats 8000000 in
set_option maxRecDepth 100000 in
/-- tell of a text of one record: it comes to its select. -/
theorem tell_one {kf : Nat} (s bt t p : ByteArray) (len n1 n2 n3 a1 a2 a3 a4 : Int) (hA : frame_All.f kf s = some ([bt], len, 0))
    (h1 : vint_Get.f kf bt 0 = some (n1, a1, 0)) (h2 : vint_Get.f kf bt a1 = some (n2, a2, 0)) (h3 : vint_Get.f kf bt a2 = some (n3, a3, 0)) (h4 : vint_GetText.f kf bt a3 = some (t, a4, 0)) (h5 : trace_Put.f kf n1 n2 n3 t = some (bt, 0))
    (hn1 : 0 ≤ n1) (h6 : frame_Put.f kf bt = some (p, 0)) (cin ce : Nat) (W : World) :
    GoesW Try.prog false DM (AtSel W cin ce #[.int .i64 n1, .int .i64 n2, .int .i64 n3, .string t, .int .i64 p.size, .int .i64 0]) (born Try.prog (tellD s cin ce)) W := by
  refine gw_ctl rfl (fun u => born34 s cin ce u) ?_
  simp only [c34, Try.f34, Option.getD_some]
  walk_nrm
  refine gw_seq ?_
  refine gw_region _ rfl ?_
  simp only [List.size_toArray, List.length_cons, List.length_nil, Nat.reduceAdd, Nat.zero_add, List.range, List.range.loop]
  refine gw_op rfl (by rfl) (by decide) rfl (fun K hK => ?_)
  go_simp
  refine hK _ _ rfl ?_
  clear hK K
  try walk_nrm
  refine gw_defer rfl (by rfl) (by decide) rfl ?_
  walk_nrm
  repeat (first
    | with_reducible refine gw_seq ?_
    | with_reducible refine gw_skip ?_
    | with_reducible refine gw_inBlock ?_
    | with_reducible refine gw_block ?_
    | with_reducible refine gw_loop ?_
    | with_reducible refine gw_inLoop ?_
    | with_reducible refine gw_region_end ?_
    | (refine gw_region _ rfl ?_; simp only [List.size_toArray, List.length_cons, List.length_nil, Nat.reduceAdd, Nat.zero_add, List.range, List.range.loop])
    | (refine gw_exit rfl ?_)
    | (refine gw_cond _ rfl ?_; simp only [if_true, if_false, Bool.false_eq_true, reduceIte, Bool.not_true, Bool.not_false, decide_true, decide_false, decide_eq_true_eq, not_true_eq_false, not_false_eq_true])
    | (refine gw_unwanted rfl (by rfl) ?_; try walk_nrm)
    | (refine gw_op rfl (by rfl) (by decide) rfl (fun K hK => ?_); go_simp; refine hK _ _ rfl ?_; clear hK K; try walk_nrm)
    )
  refine gw_callR (args := #[.string s]) (RAll [bt] len) (fun v u τ d h => h) rfl (by rfl) (by decide) rfl Try.func44 rfl (by kernel_rfl) (by simp only [List.map_toArray, List.map_cons, List.map_nil, Act.eval]; rfl) (ent_ok rfl rfl) (fun u hu => (frame_All.calls kf s [bt] len 0 u hA).mono ?_) ?_
  · rintro e w' ⟨v0, rfl, hR, hb⟩
    obtain ⟨A, c, rfl, _, hC⟩ := Kd.R_reads hR
    exact ⟨_, rfl, ⟨A, c, rfl, hC⟩, hb⟩
  rintro v w1 ⟨A, cp, rfl, hC⟩ hb
  try walk_nrm
  obtain ⟨ad, rfl, hc0⟩ := Kd.at_string hC 0 (Int.le_refl 0) (by simp)
  have hc1 : w1.cell? ad = some (.string bt) := hc0
  clear hc0 hC
  repeat (first
    | with_reducible refine gw_seq ?_
    | with_reducible refine gw_skip ?_
    | with_reducible refine gw_inBlock ?_
    | with_reducible refine gw_block ?_
    | with_reducible refine gw_loop ?_
    | with_reducible refine gw_inLoop ?_
    | with_reducible refine gw_region_end ?_
    | (refine gw_region _ rfl ?_; simp only [List.size_toArray, List.length_cons, List.length_nil, Nat.reduceAdd, Nat.zero_add, List.range, List.range.loop])
    | (refine gw_exit rfl ?_)
    | (refine gw_cond _ rfl ?_; simp only [if_true, if_false, Bool.false_eq_true, reduceIte, Bool.not_true, Bool.not_false, decide_true, decide_false, decide_eq_true_eq, not_true_eq_false, not_false_eq_true])
    | (refine gw_unwanted rfl (by rfl) ?_; try walk_nrm)
    | (refine gw_op rfl (by rfl) (by decide) rfl (fun K hK => ?_); go_simp; refine hK _ _ rfl ?_; clear hK K; try walk_nrm)
    )
  generalize hw0 : w1.alloc _ = w0
  have g0 : TS W w1.heap.size #[.int .i64 0, .int .i64 0, .int .i64 0, .string ⟨#[]⟩, .int .i64 0, .int .i64 0] w0 :=
    hw0 ▸ ⟨hb.size, by rw [size_alloc']; exact Nat.le_refl _, hb.alloc hb.size _, heap_alloc_self _ _⟩
  clear hw0
  generalize hX : w1.heap.size = X at g0 ⊢
  clear hX hb hc1 w1
  refine gw_into (args := #[.string bt]) rfl (by rfl) (by decide) rfl Try.func14 rfl (by kernel_rfl) (by simp only [List.map_toArray, List.map_cons, List.map_nil, Act.eval]; rfl) ?_
  refine get_walk kf bt t bt n1 n2 n3 a1 a2 a3 a4 0 _ _ _ h1 h2 h3 h4 (fun _ => h5) _ 0 (.inr (.inr ⟨rfl, rfl, rfl, rfl⟩)) ?_
  intro w_ hb
  have g1 := g0.next hb
  clear hb g0 w0
  rw [finish_op rfl]
  try walk_nrm
  have fx0 := cell_of (o := 0) g1.x
  have fx1 := cell_of (o := 1) g1.x
  have fx2 := cell_of (o := 2) g1.x
  have fx3 := cell_of (o := 3) g1.x
  have fx4 := cell_of (o := 4) g1.x
  have fx5 := cell_of (o := 5) g1.x
  have z_ : ∀ j, w_.frozen? ⟨X, j, none⟩ = false := fun j => frozen_of g1.x
  simp only [List.getElem?_toArray, List.getElem?_cons_succ, List.getElem?_cons_zero] at fx0 fx1 fx2 fx3 fx4 fx5
  have hu79 := Try.underlying79
  have hu27 := Try.underlying27
  have hu25 := Try.underlying25
  repeat (first
    | with_reducible refine gw_seq ?_
    | with_reducible refine gw_skip ?_
    | with_reducible refine gw_inBlock ?_
    | with_reducible refine gw_block ?_
    | with_reducible refine gw_loop ?_
    | with_reducible refine gw_inLoop ?_
    | with_reducible refine gw_region_end ?_
    | (refine gw_region _ rfl ?_; simp only [List.size_toArray, List.length_cons, List.length_nil, Nat.reduceAdd, Nat.zero_add, List.range, List.range.loop])
    | (refine gw_exit rfl ?_)
    | (refine gw_cond _ rfl ?_; simp only [if_true, if_false, Bool.false_eq_true, reduceIte, Bool.not_true, Bool.not_false, decide_true, decide_false, decide_eq_true_eq, not_true_eq_false, not_false_eq_true])
    | (refine gw_unwanted rfl (by rfl) ?_; try walk_nrm)
    | (refine gw_op rfl (by rfl) (by decide) rfl (fun K hK => ?_); go_simp; refine hK _ _ rfl ?_; clear hK K; try walk_nrm)
    )
  have hlt : ¬ n1 < 0 := by omega
  rw [if_neg hlt]
  have g0 := ((((g1.set 0 (.int .i64 n1)).set 1 (.int .i64 n2)).set 2 (.int .i64 n3)).set 3 (.string t)).set 5 (.int .i64 0)
  simp only [List.setIfInBounds_toArray, List.set_cons_succ, List.set_cons_zero] at g0
  revert g0
  generalize ((((((w_).setCell ⟨X, 0, none⟩ (.int .i64 n1)).setCell ⟨X, 1, none⟩ (.int .i64 n2)).setCell ⟨X, 2, none⟩ (.int .i64 n3)).setCell ⟨X, 3, none⟩ (.string t)).setCell ⟨X, 5, none⟩ (.int .i64 0) : World) = w0
  intro g0
  clear g1 fx0 fx1 fx2 fx3 fx4 fx5 z_ w_
  repeat (first
    | with_reducible refine gw_seq ?_
    | with_reducible refine gw_skip ?_
    | with_reducible refine gw_inBlock ?_
    | with_reducible refine gw_block ?_
    | with_reducible refine gw_loop ?_
    | with_reducible refine gw_inLoop ?_
    | with_reducible refine gw_region_end ?_
    | (refine gw_region _ rfl ?_; simp only [List.size_toArray, List.length_cons, List.length_nil, Nat.reduceAdd, Nat.zero_add, List.range, List.range.loop])
    | (refine gw_exit rfl ?_)
    | (refine gw_cond _ rfl ?_; simp only [if_true, if_false, Bool.false_eq_true, reduceIte, Bool.not_true, Bool.not_false, decide_true, decide_false, decide_eq_true_eq, not_true_eq_false, not_false_eq_true])
    | (refine gw_unwanted rfl (by rfl) ?_; try walk_nrm)
    | (refine gw_op rfl (by rfl) (by decide) rfl (fun K hK => ?_); go_simp; refine hK _ _ rfl ?_; clear hK K; try walk_nrm)
    )
  refine gw_callB (args := #[.string bt]) (.tuple #[.string p, .int .i64 0]) rfl (by rfl) (by decide) rfl Try.func33 rfl (by kernel_rfl) (by simp only [List.map_toArray, List.map_cons, List.map_nil, Act.eval]; rfl) (ent_ok rfl rfl) (fun u hu => frame_Put.calls kf bt p 0 u h6) ?_
  intro w_ hb
  have g1 := g0.next hb
  clear hb g0 w0
  try walk_nrm
  have fx0 := cell_of (o := 0) g1.x
  have fx1 := cell_of (o := 1) g1.x
  have fx2 := cell_of (o := 2) g1.x
  have fx3 := cell_of (o := 3) g1.x
  have fx4 := cell_of (o := 4) g1.x
  have fx5 := cell_of (o := 5) g1.x
  have z_ : ∀ j, w_.frozen? ⟨X, j, none⟩ = false := fun j => frozen_of g1.x
  simp only [List.getElem?_toArray, List.getElem?_cons_succ, List.getElem?_cons_zero] at fx0 fx1 fx2 fx3 fx4 fx5
  repeat (first
    | with_reducible refine gw_seq ?_
    | with_reducible refine gw_skip ?_
    | with_reducible refine gw_inBlock ?_
    | with_reducible refine gw_block ?_
    | with_reducible refine gw_loop ?_
    | with_reducible refine gw_inLoop ?_
    | with_reducible refine gw_region_end ?_
    | (refine gw_region _ rfl ?_; simp only [List.size_toArray, List.length_cons, List.length_nil, Nat.reduceAdd, Nat.zero_add, List.range, List.range.loop])
    | (refine gw_exit rfl ?_)
    | (refine gw_cond _ rfl ?_; simp only [if_true, if_false, Bool.false_eq_true, reduceIte, Bool.not_true, Bool.not_false, decide_true, decide_false, decide_eq_true_eq, not_true_eq_false, not_false_eq_true])
    | (refine gw_unwanted rfl (by rfl) ?_; try walk_nrm)
    | (refine gw_op rfl (by rfl) (by decide) rfl (fun K hK => ?_); go_simp; refine hK _ _ rfl ?_; clear hK K; try walk_nrm)
    )
  have g0 := g1.set 4 (.int .i64 p.size)
  simp only [List.setIfInBounds_toArray, List.set_cons_succ, List.set_cons_zero] at g0
  revert g0
  generalize (w_.setCell _ _ : World) = w0
  intro g0
  clear g1 fx0 fx1 fx2 fx3 fx4 fx5 z_ w_
  refine .stop fun dd => ⟨X, ⟨g0.low, g0.size, ⟨g0.below.os, g0.below.tape, g0.below.output, g0.below.size, g0.below.block⟩, g0.x⟩, rfl, ?_⟩
  apply Exists.intro
  refine ⟨.agg #[.int .i64 0, .int .i64 0, .int .i64 0, .string ⟨#[]⟩, .int .i64 0, .int .i64 0], .agg #[], fun u => ?_, ?_⟩
  · rw [stepG_comm rfl rfl (by decide) (show _ = Result.ok (Next.comm #[scase cin (.agg #[.int .i64 n1, .int .i64 n2, .int .i64 n3, .string t, .int .i64 p.size, .int .i64 0]) (.agg #[.int .i64 0, .int .i64 0, .int .i64 0, .string ⟨#[]⟩, .int .i64 0, .int .i64 0]), rcase ce (.agg #[])] true .select) u by simp [go_sem, execOp, Act.eval, scase, rcase]), listed_none (by simp [go_sem, execOp, Act.eval])]
  · intro Still B hS hB u
    rw [served_fr, finish_op rfl]
    simp only [commResult]
    walk_nrm
    repeat (first
      | k_c stepG_seq
      | k_c stepG_skip
      | k_c stepG_inBlock
      | k_c stepG_block
      | k_c stepG_loop
      | k_c stepG_inLoop
      | k_c stepG_region_end
      | k_reg
      | (k_in; refine goes_exit rfl ?_; refine ⟨ds_none _, ?_⟩)
      | (k_in; rw [stepG_cond rfl]; simp only [goes_go, if_true, if_false, Bool.false_eq_true, reduceIte]; refine ⟨ds_none _, ?_⟩)
      | (k_in; refine goes_oper_k rfl rfl (by decide) (fun K hK => ?_); go_simp; refine hK _ _ ⟨⟨rfl, fun e he => by have hm := mem_listed he; simp [go_sem] at hm⟩, ?_⟩; clear hK K; try walk_nrm)
      )

    k_in
    refine goes_oper_k rfl rfl (by decide) (fun K hK => ?_)
    have hc : w₁.cell? ⟨X, 5, none⟩ = some (.int .i64 0) := cell_of (o := 5) h₁
    have hf : w₁.frozen? ⟨X, 5, none⟩ = false := frozen_of h₁
    go_simp
    refine hK _ _ ⟨⟨rfl, fun e he => ?_⟩, ?_⟩
    · have hm := mem_listed he
      simp [go_sem, hc] at hm
      subst hm
      exact evC_read _ (hS _) hB
    clear hK K
    try walk_nrm
    repeat (first
      | k_c stepG_seq
      | k_c stepG_skip
      | k_c stepG_inBlock
      | k_c stepG_block
      | k_c stepG_loop
      | k_c stepG_inLoop
      | k_c stepG_region_end
      | k_reg
      | (k_in; refine goes_exit rfl ?_; refine ⟨ds_none _, ?_⟩)
      | (k_in; rw [stepG_cond rfl]; simp only [goes_go, if_true, if_false, Bool.false_eq_true, reduceIte]; refine ⟨ds_none _, ?_⟩)
      | (k_in; refine goes_oper_k rfl rfl (by decide) (fun K hK => ?_); go_simp; refine hK _ _ ⟨⟨rfl, fun e he => by have hm := mem_listed he; simp [go_sem] at hm⟩, ?_⟩; clear hK K; try walk_nrm)
      )

    k_in
    rw [stepG_retG]
    simp only [goes_go]
    refine ⟨ds_none _, ?_⟩
    exact .inl fun u _ => shut34 _ _ cin u
end Go.Proofs.Ytmdcpmfanpopgaa
/- Written by wip/tools/gentail.py: Decode between its first and its second receive, beside tell. -/
namespace Go.Proofs.Ytmdcpmfanpopgaa
open Go Go.Conc Go.RowKit
set_option linter.unusedSimpArgs false
set_option linter.unusedVariables false

/-- The still places behind the select: the told record's cells; the channel. -/
def StX (X cin : Nat) (l : Loc) : Prop := (∃ o, l = .cell ⟨X, o, none⟩) ∨ l = .obj cin
theorem stX_mem (X cin : Nat) : ∀ l, StX X cin l → l.isMemory = true := by
  rintro l (⟨o, rfl⟩ | rfl) <;> rfl
/-- What lies below z stands. -/
structure LowK (z : Nat) (w w' : World) : Prop where
  heap : ∀ k, k < z → w'.heap[k]? = w.heap[k]?
  tape : w'.tape = w.tape
  os : w'.os = w.os
  output : w'.output = w.output
  size : w.heap.size ≤ w'.heap.size
theorem LowK.refl (z : Nat) (w : World) : LowK z w w := ⟨fun _ _ => rfl, rfl, rfl, rfl, Nat.le_refl _⟩
theorem LowK.alloc {z : Nat} {w : World} (h : z ≤ w.heap.size) (o : Obj) : LowK z w (w.alloc o) := ⟨fun _ hk => heap_alloc_lt o (Nat.lt_of_lt_of_le hk h), rfl, rfl, rfl, by rw [size_alloc']; exact Nat.le_succ _⟩
theorem LowK.set {z j : Nat} {w w' : World} (h : LowK z w w') (v : Value) : LowK z w (w'.setCell ⟨z, j, none⟩ v) :=
  ⟨fun k hk => (heap_setCell_ne v (by omega)).trans (h.heap k hk), h.tape, h.os, h.output, by rw [size_setCell']; exact h.size⟩
theorem LowK.trans {z : Nat} {a b c : World} (h : LowK z a b) (h' : LowK z b c) : LowK z a c := ⟨fun k hk => (h'.heap k hk).trans (h.heap k hk), h'.tape.trans h.tape, h'.os.trans h.os, h'.output.trans h.output, Nat.le_trans h.size h'.size⟩
/-- What a step of goroutine 0's may do meanwhile. -/
def DX (X cin z : Nat) (B : Nat) (w w' : World) (es : Array Event) : Prop := LowK z w w' ∧ ∀ e ∈ es, EvHd (StX X cin) B e
theorem dd_none {X cin z : Nat} {B : Nat} (w : World) : DX X cin z B w w #[] := ⟨LowK.refl _ _, by simp⟩

theorem rc_size {c : Nat} {w w₁ : World} (h : RC c w w₁) : w₁.heap.size = w.heap.size := by
  obtain ⟨d, rfl | ⟨cap, k, rfl⟩⟩ := h
  · rfl
  · simp [World.setChan]
    rfl
theorem rc_heap {c k : Nat} {w w₁ : World} (h : RC c w w₁) (hk : k ≠ c) : w₁.heap[k]? = w.heap[k]? := by
  obtain ⟨d, rfl | ⟨cap, j, rfl⟩⟩ := h
  · rfl
  · exact heap_setChan_ne _ _ _ _ _ _ _ (fun e => hk e.symm)
structure M0 (cin z : Nat) (w : World) : Prop where
  size : w.heap.size = z
theorem M0.rely {cin z : Nat} {w w₁ : World} (h : M0 cin z w) (r : RC cin w w₁) : M0 cin z w₁ := ⟨by rw [rc_size r]; exact h.size⟩
structure M1 (cin z : Nat) (ys : Array Value) (w : World) : Prop where
  size : w.heap.size = z + 1
  lt : cin < z
  y : w.heap[z]? = some (.cells ys 79 (0, 0))
theorem M1.rely {cin z : Nat} {ys : Array Value} {w w₁ : World} (h : M1 cin z ys w) (r : RC cin w w₁) : M1 cin z ys w₁ := ⟨by rw [rc_size r]; exact h.size, h.lt, by rw [rc_heap r (by have := h.lt; omega)]; exact h.y⟩
structure M3 (cin z : Nat) (ys : Array Value) (w : World) : Prop where
  size : w.heap.size = z + 2
  lt : cin < z
  y : w.heap[z + 1]? = some (.cells ys 27 (0, 0))
theorem M3.rely {cin z : Nat} {ys : Array Value} {w w₁ : World} (h : M3 cin z ys w) (r : RC cin w w₁) : M3 cin z ys w₁ := ⟨by rw [rc_size r]; exact h.size, h.lt, by rw [rc_heap r (by have := h.lt; omega)]; exact h.y⟩
theorem info27x : ∃ i, Try.prog.info? 27 = some i ∧ i.zero = some (.agg #[.int .i64 0, .int .i64 0, .int .i64 0, .string ⟨#[]⟩]) ∧ i.size = 4 ∧ i.bytes = 40 := by
  have h : (Try.prog.info? 27).map (fun i => (i.zero, i.size, i.bytes)) = some (some (.agg #[.int .i64 0, .int .i64 0, .int .i64 0, .string ⟨#[]⟩]), 4, 40) := by kernel_rfl
  obtain ⟨i, hi, e⟩ := Option.map_eq_some_iff.1 h
  simp only [Prod.mk.injEq] at e
  exact ⟨i, hi, e.1, e.2.1, e.2.2⟩
structure M2 (cin z : Nat) (v : Value) (w : World) : Prop where
  lt : cin < z
  c : w.cell? ⟨z + 2, 0, none⟩ = some v
theorem M2.rely {cin z : Nat} {v : Value} {w w₁ : World} (h : M2 cin z v w) (r : RC cin w w₁) : M2 cin z v w₁ := ⟨h.lt, by have := h.c; unfold World.cell? at this ⊢; rw [rc_heap r (by have := h.lt; simp; omega)]; exact this⟩

theorem events_store_string (P : Program) (w : World) (es : Array Event) (a : Addr) (m : Mode) (s : ByteArray) : (store a (.string s) m).events P w es = storedEv P w es a (.string s) m := events_store P w es a _ m rfl
theorem stX_not {X cin z o : Nat} (h : X ≠ z) : ¬ StX X cin (.cell ⟨z, o, none⟩) := by
  rintro (⟨o', e⟩ | e)
  · cases e; exact h rfl
  · cases e
/-- Decode at its second receive: the list of one record. -/
def T18b (s : ByteArray) (cin ce : Nat) (A : Option Addr) (cp : Nat) (len : Int) (j1 j7 j15 j16 j17 j18 j19 j20 j21 j22 j23 j24 j25 j26 j27 j28 j29 j30 j31 j32 j33 j34 j35 : Value) : Array Value := #[.string s, j1, .slice A 1 cp, .int .i64 len, .int .i64 0, .chan (some cin), .chan (some ce), j7, .chan (some cin), .chan (some ce), .chan (some ce), .string s, .chan (some cin), .chan (some ce), .chan (some cin), j15, j16, j17, j18, j19, j20, j21, j22, j23, j24, j25, j26, j27, j28, j29, j30, j31, j32, j33, j34, j35]
noncomputable def seat18b (s : ByteArray) (cin ce : Nat) (A : Option Addr) (len : Int) (c : Frame) (cs : List Frame) : Seat := Seat.one cin zero79 true fun g => ∃ cp j1 j7 j15 j16 j17 j18 j19 j20 j21 j22 j23 j24 j25 j26 j27 j28 j29 j30 j31 j32 j33 j34 j35, g = R18 (T18b s cin ce A cp len j1 j7 j15 j16 j17 j18 j19 j20 j21 j22 j23 j24 j25 j26 j27 j28 j29 j30 j31 j32 j33 j34 j35) ce c cs

theorem terms_x {X cin z : Nat} {B : Nat} (hX : X < z) (hc : cin < z) : Terms (RC cin) (DX X cin z B) := ⟨rc_trans cin, dd_none⟩
/-- What holds at every operation of the region. -/
def SX (cin z : Nat) (ys : Array Value) (w : World) : Prop := cin < z ∧ w.heap[z]? = some (.cells ys 79 (0, 0))
theorem sx_rely {cin z : Nat} {ys : Array Value} (hc : cin < z) : ∀ x y, SX cin z ys x → RC cin x y → SX cin z ys y := fun x y h r => ⟨hc, by rw [rc_heap r (by omega)]; exact h.2⟩
theorem yields_x {a : Act} {o : Oper} {ops : Array Oper} {S : World → Prop} {fn : FuncId} {v : Value} {X cin z B : Nat} (hw : Region.wanted o (yielded ops a.tmps) = true) (hr : ∀ w, S w → (execOp a.eval o).run Try.prog w = .ok (.value v) w)
    (he : ∀ w, S w → ∀ e ∈ (execOp a.eval o).events Try.prog w #[], EvHd (StX X cin) B e) : YieldsIfC Try.prog (DX X cin z B) fn ops S o v a :=
  .inl ⟨hw, fun w hS => ⟨hr w hS, LowK.refl _ _, fun e h => he w hS e (mem_listed h)⟩⟩
theorem opC_x {a : Act} {o : Oper} {ops : Array Oper} {i : Nat} {w : World} {K : Act → World → Prop} {fn : FuncId} {X cin z B : Nat} (ho : ops[i]? = some o) (hw : Region.wanted o (yielded ops a.tmps) = true)
    (h : ∀ w₁, RC cin w w₁ → ∀ K' : Act → World → Prop, (∀ a' w', DX X cin z B w₁ w' (listed Try.prog fn a o w₁) ∧ K a' w' → K' a' w') → uponK o a K' ((execOp a.eval o).run Try.prog w₁)) : OpC Try.prog (RC cin) (DX X cin z B) fn ops i K a w := by
  unfold OpC
  simp only [ho, hw, if_true]
  exact fun w₁ h₁ => h w₁ h₁ _ fun _ _ x => x

theorem at18h {K : World → Prop} {Still : Loc → Prop} {B : Nat} {T : Array Value} {cin ce : Nat} {c : Frame} {cs : List Frame} {home : Goroutine → Prop} (hT : T.getD 14 undef = .chan (some cin)) (h : home (R18 T ce c cs)) : AtIn Try.prog true K Still B (Seat.one cin zero79 true home) (R18 T ce c cs) (R18 T ce c cs) := by
  obtain ⟨h1, h2, h3, h4, _, es, hes, hst⟩ := at18 (K := K) (Still := Still) (B := B) hT ce c cs
  exact ⟨h1, h2, h3, h4, h, es, hes, hst⟩

set_option maxHeartbeats 8000000 in
set_option maxRecDepth 100000 in
/-- GOROUTINE 0 BETWEEN ITS TWO RECEIVES. -/
theorem m_walk (s t : ByteArray) (n1 n2 n3 len : Int) (X cin ce z B : Nat) (hX : X < z) (hc : cin < z) (hB : z + 3 ≤ B) (hlen : IntKind.i64.wrap len = len) (c : Frame) (cs : List Frame) (w : World) (hF : M0 cin z w) :
    Goes Try.prog true (RC cin) (DX X cin z B)
      (fun g w => (∃ g₂, AtIn Try.prog true KT (StX X cin) B (seat18b s cin ce (some ⟨z + 2, 0, none⟩) len c cs) g g₂) ∧ w.cell? ⟨z + 2, 0, none⟩ = some (.int .i64 n1)) 120
      (Go.Conc.served (R18 (T18 s cin ce) ce c cs) (recvd true (.agg #[.int .i64 n1, .int .i64 n2, .int .i64 n3, .string t, .int .i64 len, .int .i64 0]) true)) w := by
  unfold R18 todo18
  rw [served_fr, finish_op (o := recvOp) rfl]
  simp only [recvd, if_true, T18, recvOp, ops18, loop18, ret18, rest18, c18, Try.f18, Option.getD_some, rgt, lft, inn, regOps]
  walk_nrm
  repeat (first
    | (refine Goes.step rfl (fun w₁ h₁ => ?_); replace hF := hF.rely h₁; rw [stepG_seq]; simp only [goes_go]; refine ⟨dd_none _, ?_⟩; clear h₁)
    | (refine Goes.step rfl (fun w₁ h₁ => ?_); replace hF := hF.rely h₁; rw [stepG_skip]; simp only [goes_go]; refine ⟨dd_none _, ?_⟩; clear h₁)
    | (refine Goes.step rfl (fun w₁ h₁ => ?_); replace hF := hF.rely h₁; rw [stepG_inBlock]; simp only [goes_go]; refine ⟨dd_none _, ?_⟩; clear h₁)
    | (refine Goes.step rfl (fun w₁ h₁ => ?_); replace hF := hF.rely h₁; rw [stepG_block]; simp only [goes_go]; refine ⟨dd_none _, ?_⟩; clear h₁)
    | (refine Goes.step rfl (fun w₁ h₁ => ?_); replace hF := hF.rely h₁; rw [stepG_loop]; simp only [goes_go]; refine ⟨dd_none _, ?_⟩; clear h₁)
    | (refine Goes.step rfl (fun w₁ h₁ => ?_); replace hF := hF.rely h₁; rw [stepG_inLoop]; simp only [goes_go]; refine ⟨dd_none _, ?_⟩; clear h₁)
    | (refine Goes.step rfl (fun w₁ h₁ => ?_); replace hF := hF.rely h₁; rw [stepG_region_end]; simp only [goes_go]; refine ⟨dd_none _, ?_⟩; clear h₁)
    | (refine Goes.step rfl (fun w₁ h₁ => ?_); replace hF := hF.rely h₁; rw [stepG_region]; simp only [goes_go, List.size_toArray, List.length_cons, List.length_nil, Nat.reduceAdd, Nat.zero_add, List.range, List.range.loop]; refine ⟨dd_none _, ?_⟩; clear h₁)
    | (refine Goes.step rfl (fun w₁ h₁ => ?_); replace hF := hF.rely h₁; refine goes_exit rfl ?_; refine ⟨dd_none _, ?_⟩; clear h₁)
    | (refine Goes.step rfl (fun w₁ h₁ => ?_); replace hF := hF.rely h₁; rw [stepG_cond rfl]; simp only [goes_go, if_true, if_false, Bool.false_eq_true, reduceIte]; refine ⟨dd_none _, ?_⟩; clear h₁)
    | (refine Goes.step rfl (fun w₁ h₁ => ?_); replace hF := hF.rely h₁; refine goes_oper_k rfl rfl (by decide) (fun K hK => ?_); go_simp; refine hK _ _ ⟨⟨LowK.refl _ _, fun e he => by have hm := mem_listed he; simp [go_sem] at hm⟩, ?_⟩; clear hK K h₁; try walk_nrm)
    )
  have hXz : X ≠ z := by omega
  have hcz : cin ≠ z := by omega
  have hu79 := Try.underlying79
  have hu27 := Try.underlying27
  have hu25 := Try.underlying25
  refine Goes.step rfl (fun w₁ h₁ => ?_)
  replace hF := hF.rely h₁
  refine goes_oper_k rfl rfl (by decide) (fun K hK => ?_)
  go_simp
  refine hK _ _ ⟨⟨LowK.alloc (by rw [hF.size]; exact Nat.le_refl _) _, fun e he => by have hm := mem_listed he; simp [go_sem] at hm⟩, ?_⟩
  clear hK K h₁
  have hs := hF.size
  have hF' : M1 cin z #[.int .i64 0, .int .i64 0, .int .i64 0, .string ⟨#[]⟩, .int .i64 0, .int .i64 0] (w₁.alloc (.cells #[.int .i64 0, .int .i64 0, .int .i64 0, .string ⟨#[]⟩, .int .i64 0, .int .i64 0] 79)) :=
    ⟨by rw [size_alloc', hs], hc, by rw [← hs]; exact heap_alloc_self _ _⟩
  simp only [hs]
  clear hF hs
  revert hF'
  generalize w₁.alloc _ = w2
  intro hF
  clear w₁
  try walk_nrm
  refine Goes.step rfl (fun w₁ h₁ => ?_)
  replace hF := hF.rely h₁
  refine goes_oper_k rfl rfl (by decide) (fun K hK => ?_)
  have fx0 := cell_of (o := 0) hF.y
  have fx1 := cell_of (o := 1) hF.y
  have fx2 := cell_of (o := 2) hF.y
  have fx3 := cell_of (o := 3) hF.y
  have fx4 := cell_of (o := 4) hF.y
  have fx5 := cell_of (o := 5) hF.y
  have z_ : ∀ j, w₁.frozen? ⟨z, j, none⟩ = false := fun j => frozen_of hF.y
  simp only [List.getElem?_toArray, List.getElem?_cons_succ, List.getElem?_cons_zero] at fx0 fx1 fx2 fx3 fx4 fx5
  go_simp
  refine hK _ _ ⟨⟨((((((LowK.refl z w₁).set _).set _).set _).set _).set _).set _, fun e he => ?_⟩, ?_⟩
  · have hm := mem_listed he
    simp [go_sem, events_store_string, hu79, hu27, hu25, fx0, fx1, fx2, fx3, fx4, fx5, z_] at hm
    have hcase : ∃ o, e = ⟨.cell ⟨z, o, none⟩, true, false⟩ := by
      repeat' (rcases hm with hm | hm)
      all_goals exact ⟨_, rfl⟩
    obtain ⟨o, rfl⟩ := hcase
    exact evHd_write _ (stX_not hXz) (by show z < B; omega)
  clear hK K h₁
  have hF' : M1 cin z #[.int .i64 n1, .int .i64 n2, .int .i64 n3, .string t, .int .i64 len, .int .i64 0]
      ((((((w₁.setCell ⟨z, 0, none⟩ (.int .i64 n1)).setCell ⟨z, 1, none⟩ (.int .i64 n2)).setCell ⟨z, 2, none⟩ (.int .i64 n3)).setCell ⟨z, 3, none⟩ (.string t)).setCell ⟨z, 4, none⟩ (.int .i64 len)).setCell ⟨z, 5, none⟩ (.int .i64 0)) :=
    ⟨by simp only [size_setCell']; exact hF.size, hc, by
      have h0 := heap_setCell_self (o := 0) hF.y (.int .i64 n1)
      have h1 := heap_setCell_self (o := 1) h0 (.int .i64 n2)
      have h2 := heap_setCell_self (o := 2) h1 (.int .i64 n3)
      have h3 := heap_setCell_self (o := 3) h2 (.string t)
      have h4 := heap_setCell_self (o := 4) h3 (.int .i64 len)
      exact heap_setCell_self (o := 5) h4 (.int .i64 0)⟩
  revert hF'
  generalize (((((w₁.setCell ⟨z, 0, none⟩ (.int .i64 n1)).setCell ⟨z, 1, none⟩ (.int .i64 n2)).setCell ⟨z, 2, none⟩ (.int .i64 n3)).setCell ⟨z, 3, none⟩ (.string t)).setCell ⟨z, 4, none⟩ (.int .i64 len)).setCell ⟨z, 5, none⟩ (.int .i64 0) = w3
  intro hF'
  clear hF fx0 fx1 fx2 fx3 fx4 fx5 z_ w₁
  have hF := hF'
  clear hF'
  repeat (first
    | (refine Goes.step rfl (fun w₁ h₁ => ?_); replace hF := hF.rely h₁; rw [stepG_seq]; simp only [goes_go]; refine ⟨dd_none _, ?_⟩; clear h₁)
    | (refine Goes.step rfl (fun w₁ h₁ => ?_); replace hF := hF.rely h₁; rw [stepG_skip]; simp only [goes_go]; refine ⟨dd_none _, ?_⟩; clear h₁)
    | (refine Goes.step rfl (fun w₁ h₁ => ?_); replace hF := hF.rely h₁; rw [stepG_inBlock]; simp only [goes_go]; refine ⟨dd_none _, ?_⟩; clear h₁)
    | (refine Goes.step rfl (fun w₁ h₁ => ?_); replace hF := hF.rely h₁; rw [stepG_block]; simp only [goes_go]; refine ⟨dd_none _, ?_⟩; clear h₁)
    | (refine Goes.step rfl (fun w₁ h₁ => ?_); replace hF := hF.rely h₁; rw [stepG_loop]; simp only [goes_go]; refine ⟨dd_none _, ?_⟩; clear h₁)
    | (refine Goes.step rfl (fun w₁ h₁ => ?_); replace hF := hF.rely h₁; rw [stepG_inLoop]; simp only [goes_go]; refine ⟨dd_none _, ?_⟩; clear h₁)
    | (refine Goes.step rfl (fun w₁ h₁ => ?_); replace hF := hF.rely h₁; rw [stepG_region_end]; simp only [goes_go]; refine ⟨dd_none _, ?_⟩; clear h₁)
    | (refine Goes.step rfl (fun w₁ h₁ => ?_); replace hF := hF.rely h₁; rw [stepG_region]; simp only [goes_go, List.size_toArray, List.length_cons, List.length_nil, Nat.reduceAdd, Nat.zero_add, List.range, List.range.loop]; refine ⟨dd_none _, ?_⟩; clear h₁)
    | (refine Goes.step rfl (fun w₁ h₁ => ?_); replace hF := hF.rely h₁; refine goes_exit rfl ?_; refine ⟨dd_none _, ?_⟩; clear h₁)
    | (refine Goes.step rfl (fun w₁ h₁ => ?_); replace hF := hF.rely h₁; rw [stepG_cond rfl]; simp only [goes_go, if_true, if_false, Bool.false_eq_true, reduceIte]; refine ⟨dd_none _, ?_⟩; clear h₁)
    | (refine Goes.step rfl (fun w₁ h₁ => ?_); replace hF := hF.rely h₁; refine goes_oper_k rfl rfl (by decide) (fun K hK => ?_); go_simp; refine hK _ _ ⟨⟨LowK.refl _ _, fun e he => by have hm := mem_listed he; simp [go_sem] at hm⟩, ?_⟩; clear hK K h₁; try walk_nrm)
    )
  refine Goes.step rfl (fun w₁ h₁ => ?_)
  replace hF := hF.rely h₁
  refine goes_oper_k rfl rfl (by decide) (fun K hK => ?_)
  have fx5 : w₁.cell? ⟨z, 5, none⟩ = some (.int .i64 0) := cell_of (o := 5) hF.y
  have z_ : ∀ j, w₁.frozen? ⟨z, j, none⟩ = false := fun j => frozen_of hF.y
  go_simp
  refine hK _ _ ⟨⟨LowK.refl _ _, fun e he => ?_⟩, ?_⟩
  · have hm := mem_listed he
    simp [go_sem, fx5, z_] at hm
    subst hm
    exact evHd_read _ (by show z < B; omega)
  clear hK K h₁ fx5 z_
  try walk_nrm
  repeat (first
    | (refine Goes.step rfl (fun w₁ h₁ => ?_); replace hF := hF.rely h₁; rw [stepG_seq]; simp only [goes_go]; refine ⟨dd_none _, ?_⟩; clear h₁)
    | (refine Goes.step rfl (fun w₁ h₁ => ?_); replace hF := hF.rely h₁; rw [stepG_skip]; simp only [goes_go]; refine ⟨dd_none _, ?_⟩; clear h₁)
    | (refine Goes.step rfl (fun w₁ h₁ => ?_); replace hF := hF.rely h₁; rw [stepG_inBlock]; simp only [goes_go]; refine ⟨dd_none _, ?_⟩; clear h₁)
    | (refine Goes.step rfl (fun w₁ h₁ => ?_); replace hF := hF.rely h₁; rw [stepG_block]; simp only [goes_go]; refine ⟨dd_none _, ?_⟩; clear h₁)
    | (refine Goes.step rfl (fun w₁ h₁ => ?_); replace hF := hF.rely h₁; rw [stepG_loop]; simp only [goes_go]; refine ⟨dd_none _, ?_⟩; clear h₁)
    | (refine Goes.step rfl (fun w₁ h₁ => ?_); replace hF := hF.rely h₁; rw [stepG_inLoop]; simp only [goes_go]; refine ⟨dd_none _, ?_⟩; clear h₁)
    | (refine Goes.step rfl (fun w₁ h₁ => ?_); replace hF := hF.rely h₁; rw [stepG_region_end]; simp only [goes_go]; refine ⟨dd_none _, ?_⟩; clear h₁)
    | (refine Goes.step rfl (fun w₁ h₁ => ?_); replace hF := hF.rely h₁; rw [stepG_region]; simp only [goes_go, List.size_toArray, List.length_cons, List.length_nil, Nat.reduceAdd, Nat.zero_add, List.range, List.range.loop]; refine ⟨dd_none _, ?_⟩; clear h₁)
    | (refine Goes.step rfl (fun w₁ h₁ => ?_); replace hF := hF.rely h₁; refine goes_exit rfl ?_; refine ⟨dd_none _, ?_⟩; clear h₁)
    | (refine Goes.step rfl (fun w₁ h₁ => ?_); replace hF := hF.rely h₁; rw [stepG_cond rfl]; simp only [goes_go, if_true, if_false, Bool.false_eq_true, reduceIte]; refine ⟨dd_none _, ?_⟩; clear h₁)
    | (refine Goes.step rfl (fun w₁ h₁ => ?_); replace hF := hF.rely h₁; refine goes_oper_k rfl rfl (by decide) (fun K hK => ?_); go_simp; refine hK _ _ ⟨⟨LowK.refl _ _, fun e he => by have hm := mem_listed he; simp [go_sem] at hm⟩, ?_⟩; clear hK K h₁; try walk_nrm)
    )
  refine Goes.step rfl (fun w₁ h₁ => ?_)
  replace hF := hF.rely h₁
  rw [stepG_region_draw]
  simp only [goes_go]
  refine ⟨⟨⟨fun _ _ => rfl, rfl, rfl, rfl, Nat.le_refl _⟩, by simp⟩, ?_⟩
  simp only [Region.schedule, followsMixed, Bool.true_or, if_true]
  clear h₁
  generalize w₁.tape w₁.drawn _ = tt
  have hF' : M1 cin z #[.int .i64 n1, .int .i64 n2, .int .i64 n3, .string t, .int .i64 len, .int .i64 0] ({ w₁ with drawn := w₁.drawn + 1 }) := ⟨hF.size, hF.lt, hF.y⟩
  revert hF'
  generalize ({ w₁ with drawn := w₁.drawn + 1 } : World) = w4
  intro hF'
  clear hF w₁
  refine (anyCH_sound (Q := fun e a' w' => e = .normal ∧ M2 cin z (.int .i64 n1) w' ∧ ∃ cp j1 j7 j15 j16 j17 j18 j19 j20 j21 j22 j23 j24 j25 j26 j27 j28 j29 j30 j31 j32 j33 j34 j35, a' = ⟨T18b s cin ce (some ⟨z + 2, 0, none⟩) cp len j1 j7 j15 j16 j17 j18 j19 j20 j21 j22 j23 j24 j25 j26 j27 j28 j29 j30 j31 j32 j33 j34 j35, [closeD ce]⟩) (S := SX cin z #[.int .i64 n1, .int .i64 n2, .int .i64 n3, .string t, .int .i64 len, .int .i64 0]) (terms_x hX hc) 11 tt _ _ _ ?_) (base 18) _ (c :: cs) _ 86 rfl (by decide) ?_
  · have hS0 : SX cin z #[.int .i64 n1, .int .i64 n2, .int .i64 n3, .string t, .int .i64 len, .int .i64 0] w4 := ⟨hc, hF'.y⟩
    refine anyCH_take (i := 0) (v := .slice none 0 0) (terms_x hX hc) (sx_rely hc) (fun _ _ _ h r => ?_) rfl (by kernel_rfl) (by kernel_rfl) (by kernel_rfl) (yields_x rfl (fun w hS => ?_) (fun w hS => ?_)) hS0 ?_
    · exact ⟨h.1, h.2.1.rely r, h.2.2⟩
    · simp [go_sem, execOp, Act.eval]
    · simp [go_sem, execOp, Act.eval]
    walk_nrm
    refine anyCH_take (i := 1) (v := .pointer (some ⟨z, 0, none⟩)) (terms_x hX hc) (sx_rely hc) (fun _ _ _ h r => ?_) rfl (by kernel_rfl) (by kernel_rfl) (by kernel_rfl) (yields_x rfl (fun w hS => ?_) (fun w hS => ?_)) hS0 ?_
    · exact ⟨h.1, h.2.1.rely r, h.2.2⟩
    · simp [go_sem, execOp, Act.eval]
    · simp [go_sem, execOp, Act.eval]
    walk_nrm
    refine anyCH_take (i := 2) (v := .agg #[.int .i64 n1, .int .i64 n2, .int .i64 n3, .string t]) (terms_x hX hc) (sx_rely hc) (fun _ _ _ h r => ?_) rfl (by kernel_rfl) (by kernel_rfl) (by kernel_rfl) (yields_x rfl (fun w hS => ?_) (fun w hS => ?_)) hS0 ?_
    · exact ⟨h.1, h.2.1.rely r, h.2.2⟩
    · obtain ⟨_, hy⟩ := hS
      have f0 := cell_of (o := 0) hy
      have f1 := cell_of (o := 1) hy
      have f2 := cell_of (o := 2) hy
      have f3 := cell_of (o := 3) hy
      have f4 := cell_of (o := 4) hy
      have z_ : ∀ j, w.frozen? ⟨z, j, none⟩ = false := fun j => frozen_of hy
      simp only [List.getElem?_toArray, List.getElem?_cons_succ, List.getElem?_cons_zero] at f0 f1 f2 f3 f4
      simp [go_sem, execOp, Act.eval, hu27, hu25, f0, f1, f2, f3, f4, z_]
    · obtain ⟨_, hy⟩ := hS
      have f0 := cell_of (o := 0) hy
      have f1 := cell_of (o := 1) hy
      have f2 := cell_of (o := 2) hy
      have f3 := cell_of (o := 3) hy
      have f4 := cell_of (o := 4) hy
      have z_ : ∀ j, w.frozen? ⟨z, j, none⟩ = false := fun j => frozen_of hy
      simp only [List.getElem?_toArray, List.getElem?_cons_succ, List.getElem?_cons_zero] at f0 f1 f2 f3 f4
      intro e hm
      simp [go_sem, execOp, Act.eval, hu27, hu25, f0, f1, f2, f3, f4, z_] at hm
      have hcase : ∃ o, e = ⟨.cell ⟨z, o, none⟩, false, false⟩ := by
        repeat' (rcases hm with hm | hm)
        all_goals exact ⟨_, rfl⟩
      obtain ⟨o, rfl⟩ := hcase
      exact evHd_read _ (by show z < B; omega)
    walk_nrm
    refine anyCH_take (i := 5) (v := .int .i64 0) (terms_x hX hc) (sx_rely hc) (fun _ _ _ h r => ?_) rfl (by kernel_rfl) (by kernel_rfl) (by kernel_rfl) (yields_x rfl (fun w hS => ?_) (fun w hS => ?_)) hS0 ?_
    · exact ⟨h.1, h.2.1.rely r, h.2.2⟩
    · simp [go_sem, execOp, Act.eval]
    · simp [go_sem, execOp, Act.eval]
    walk_nrm
    refine anyCH_take (i := 6) (v := .pointer (some ⟨z, 4, none⟩)) (terms_x hX hc) (sx_rely hc) (fun _ _ _ h r => ?_) rfl (by kernel_rfl) (by kernel_rfl) (by kernel_rfl) (yields_x rfl (fun w hS => ?_) (fun w hS => ?_)) hS0 ?_
    · exact ⟨h.1, h.2.1.rely r, h.2.2⟩
    · simp [go_sem, execOp, Act.eval]
    · simp [go_sem, execOp, Act.eval]
    walk_nrm
    refine anyCH_take (i := 7) (v := .int .i64 len) (terms_x hX hc) (sx_rely hc) (fun _ _ _ h r => ?_) rfl (by kernel_rfl) (by kernel_rfl) (by kernel_rfl) (yields_x rfl (fun w hS => ?_) (fun w hS => ?_)) hS0 ?_
    · exact ⟨h.1, h.2.1.rely r, h.2.2⟩
    · obtain ⟨_, hy⟩ := hS
      have f0 := cell_of (o := 0) hy
      have f1 := cell_of (o := 1) hy
      have f2 := cell_of (o := 2) hy
      have f3 := cell_of (o := 3) hy
      have f4 := cell_of (o := 4) hy
      have z_ : ∀ j, w.frozen? ⟨z, j, none⟩ = false := fun j => frozen_of hy
      simp only [List.getElem?_toArray, List.getElem?_cons_succ, List.getElem?_cons_zero] at f0 f1 f2 f3 f4
      simp [go_sem, execOp, Act.eval, hu27, hu25, f0, f1, f2, f3, f4, z_]
    · obtain ⟨_, hy⟩ := hS
      have f0 := cell_of (o := 0) hy
      have f1 := cell_of (o := 1) hy
      have f2 := cell_of (o := 2) hy
      have f3 := cell_of (o := 3) hy
      have f4 := cell_of (o := 4) hy
      have z_ : ∀ j, w.frozen? ⟨z, j, none⟩ = false := fun j => frozen_of hy
      simp only [List.getElem?_toArray, List.getElem?_cons_succ, List.getElem?_cons_zero] at f0 f1 f2 f3 f4
      intro e hm
      simp [go_sem, execOp, Act.eval, hu27, hu25, f0, f1, f2, f3, f4, z_] at hm
      have hcase : ∃ o, e = ⟨.cell ⟨z, o, none⟩, false, false⟩ := by
        repeat' (rcases hm with hm | hm)
        all_goals exact ⟨_, rfl⟩
      obtain ⟨o, rfl⟩ := hcase
      exact evHd_read _ (by show z < B; omega)
    walk_nrm
    refine anyCH_take (i := 8) (v := .int .i64 len) (terms_x hX hc) (sx_rely hc) (fun _ _ _ h r => ?_) rfl (by kernel_rfl) (by kernel_rfl) (by kernel_rfl) (yields_x rfl (fun w hS => ?_) (fun w hS => ?_)) hS0 ?_
    · exact ⟨h.1, h.2.1.rely r, h.2.2⟩
    · simp [go_sem, execOp, Act.eval, hlen]
    · simp [go_sem, execOp, Act.eval]
    walk_nrm
    refine anyCH_all (rs := [3]) (by kernel_rfl) (by simp) ?_
    intro i hi
    simp only [List.mem_cons, List.not_mem_nil, or_false] at hi
    subst hi
    refine opC_x rfl rfl (fun w₁ h₁ K' hK => ?_)
    have hF := hF'.rely h₁
    go_simp
    refine hK _ _ ⟨⟨LowK.alloc (by rw [hF.size]; omega) _, fun e he => by have hm := mem_listed he; simp [go_sem] at hm⟩, ⟨hc, (heap_alloc_lt _ (by rw [hF.size]; omega)).trans hF.y⟩, ?_⟩
    clear hK K' h₁
    have hs := hF.size
    simp only [hs]
    have hG : M3 cin z #[.int .i64 n1, .int .i64 n2, .int .i64 n3, .string t] (w₁.alloc (.cells #[.int .i64 n1, .int .i64 n2, .int .i64 n3, .string t] 27)) :=
      ⟨by rw [size_alloc', hs], hc, by rw [← hs]; exact heap_alloc_self _ _⟩
    have hS1 : SX cin z #[.int .i64 n1, .int .i64 n2, .int .i64 n3, .string t, .int .i64 len, .int .i64 0] (w₁.alloc (.cells #[.int .i64 n1, .int .i64 n2, .int .i64 n3, .string t] 27)) := ⟨hc, (heap_alloc_lt _ (by rw [hF.size]; omega)).trans hF.y⟩
    revert hG hS1
    generalize w₁.alloc _ = w5
    intro hG hS1
    clear hs hF w₁
    walk_nrm
    refine anyCH_all (rs := [4]) (by kernel_rfl) (by simp) ?_
    intro i hi
    simp only [List.mem_cons, List.not_mem_nil, or_false] at hi
    subst hi
    refine opC_x rfl rfl (fun w₁ h₁ K' hK => ?_)
    have hF := hG.rely h₁
    have hS2 := sx_rely hc _ _ hS1 h₁
    have hnews : ∀ j u, [Value.int .i64 n1, .int .i64 n2, .int .i64 n3, .string t][j]? = some u → w₁.cell? ((⟨z + 1, 0, none⟩ : Addr).add j) = some u := by
      intro j u hu
      rw [show (⟨z + 1, 0, none⟩ : Addr).add j = ⟨z + 1, j, none⟩ by simp [Addr.add]; exact fun h => h.symm]
      rw [cell_of hF.y]
      simpa using hu
    obtain ⟨inf, hi, hz, hsz, hby⟩ := info27x
    have hr := run_append_nil (P := Try.prog) w₁ 22 22 27 inf (.agg #[.int .i64 0, .int .i64 0, .int .i64 0, .string ⟨#[]⟩]) Try.underlying22 hi hz ⟨z + 1, 0, none⟩ 1 1 [.int .i64 n1, .int .i64 n2, .int .i64 n3, .string t] (by rw [hsz]; rfl) hnews (by decide) (by decide) (by rw [hby]; decide)
    have hev := events_append_where (P := Try.prog) w₁ 0 22 22 27 inf (.agg #[.int .i64 0, .int .i64 0, .int .i64 0, .string ⟨#[]⟩]) 4 40 Try.underlying22 hi hz hsz hby (.slice none 0 0) 0 [] (World.ownsRow_nil _ _ _ _) ⟨z + 1, 0, none⟩ 1 1 [.int .i64 n1, .int .i64 n2, .int .i64 n3, .string t] rfl hnews (by intro u hu; simp at hu; rcases hu with rfl | rfl | rfl | rfl <;> rfl) (by decide) (by decide)
    rw [hF.size] at hr
    refine uponK_append (.tmp 25) (.tmp 28) 22 rfl rfl rfl hr ?_
    refine hK _ _ ⟨⟨((fun h => ⟨h.heap, h.tape, h.os, h.output, h.size⟩ : ∀ {u : World}, LowK z w₁.drew u → LowK z w₁ u) (LowK.alloc (w := w₁.drew) (by show z ≤ w₁.heap.size; rw [hF.size]; omega) _)), fun e he => ?_⟩, ⟨hc, (heap_alloc_lt _ (by show z < w₁.heap.size; rw [hF.size]; omega)).trans hS2.2⟩, ?_⟩
    · have hm := mem_listed he
      rw [events_append_op (.tmp 25) (.tmp 28) 22 rfl rfl rfl] at hm
      rcases hev e hm with ⟨ad, hl, ⟨hwf, hb⟩ | hb⟩ | ⟨m, rfl, hneu⟩
      · obtain ⟨loc, wr, sy⟩ := e
        subst hl hwf
        refine ⟨fun x hx _ => ?_, by simp, by simp, ?_⟩
        · cases sy <;> simp [MemAct.ofEvent, MemAct.touch?] at hx <;> subst hx <;> rfl
        · cases sy <;> (show ad.block < B) <;> rw [hb] <;> (show z + 1 < B) <;> omega
      · simp [Value.ownBlock] at hb
      · obtain rfl : m = .noRoom := hneu
        exact ⟨fun _ hx => (by cases hx), by simp, by simp, trivial⟩
    clear hK K' h₁ hev
    have hS6 : SX cin z #[.int .i64 n1, .int .i64 n2, .int .i64 n3, .string t, .int .i64 len, .int .i64 0] (w₁.drew.alloc (.cells ([Value.int .i64 n1, .int .i64 n2, .int .i64 n3, .string t].toArray ++ Builtin.zeroCells (Value.agg #[.int .i64 0, .int .i64 0, .int .i64 0, .string ⟨#[]⟩]).cells (grownCap w₁ 1 0 27 - 1)) 27)) :=
      ⟨hc, (heap_alloc_lt _ (by show z < w₁.heap.size; rw [hF.size]; omega)).trans hS2.2⟩
    have hM6 : M2 cin z (.int .i64 n1) (w₁.drew.alloc (.cells ([Value.int .i64 n1, .int .i64 n2, .int .i64 n3, .string t].toArray ++ Builtin.zeroCells (Value.agg #[.int .i64 0, .int .i64 0, .int .i64 0, .string ⟨#[]⟩]).cells (grownCap w₁ 1 0 27 - 1)) 27)) :=
      ⟨hc, by
        have hh := heap_alloc_self w₁.drew (.cells ([Value.int .i64 n1, .int .i64 n2, .int .i64 n3, .string t].toArray ++ Builtin.zeroCells (Value.agg #[.int .i64 0, .int .i64 0, .int .i64 0, .string ⟨#[]⟩]).cells (grownCap w₁ 1 0 27 - 1)) 27)
        rw [show w₁.drew.heap.size = z + 2 from hF.size] at hh
        rw [cell_of (o := 0) hh, Array.getElem?_append_left (by simp)]
        rfl⟩
    revert hS6 hM6
    generalize w₁.drew.alloc _ = w6
    generalize grownCap w₁ 1 0 27 = cp
    intro hS6 hM6
    refine anyCH_take (i := 9) (v := .slice (some ⟨z + 2, 0, none⟩) 1 cp) (terms_x hX hc) (sx_rely hc) (fun _ _ _ h r => ?_) rfl (by kernel_rfl) (by kernel_rfl) (by kernel_rfl) (yields_x rfl (fun w hS => ?_) (fun w hS => ?_)) hS6 ?_
    · exact ⟨h.1, h.2.1.rely r, h.2.2⟩
    · simp [go_sem, execOp, Act.eval]
    · simp [go_sem, execOp, Act.eval]
    walk_nrm
    refine anyCH_take (i := 10) (v := .int .i64 len) (terms_x hX hc) (sx_rely hc) (fun _ _ _ h r => ?_) rfl (by kernel_rfl) (by kernel_rfl) (by kernel_rfl) (yields_x rfl (fun w hS => ?_) (fun w hS => ?_)) hS6 ?_
    · exact ⟨h.1, h.2.1.rely r, h.2.2⟩
    · simp [go_sem, execOp, Act.eval]
    · simp [go_sem, execOp, Act.eval]
    walk_nrm
    exact anyCH_done (by kernel_rfl) ⟨rfl, hM6, cp, _, _, _, _, _, _, _, _, _, _, _, _, _, _, _, _, _, _, _, _, _, _, _, rfl⟩ _
  · rintro e a' w' ⟨rfl, hF, cp, j1, j7, j15, j16, j17, j18, j19, j20, j21, j22, j23, j24, j25, j26, j27, j28, j29, j30, j31, j32, j33, j34, j35, rfl⟩
    simp only [T18b]
    simp only [Go.Conc.After]
    repeat (first
      | (refine Goes.step rfl (fun w₁ h₁ => ?_); replace hF := hF.rely h₁; rw [stepG_seq]; simp only [goes_go]; refine ⟨dd_none _, ?_⟩; clear h₁)
      | (refine Goes.step rfl (fun w₁ h₁ => ?_); replace hF := hF.rely h₁; rw [stepG_skip]; simp only [goes_go]; refine ⟨dd_none _, ?_⟩; clear h₁)
      | (refine Goes.step rfl (fun w₁ h₁ => ?_); replace hF := hF.rely h₁; rw [stepG_inBlock]; simp only [goes_go]; refine ⟨dd_none _, ?_⟩; clear h₁)
      | (refine Goes.step rfl (fun w₁ h₁ => ?_); replace hF := hF.rely h₁; rw [stepG_block]; simp only [goes_go]; refine ⟨dd_none _, ?_⟩; clear h₁)
      | (refine Goes.step rfl (fun w₁ h₁ => ?_); replace hF := hF.rely h₁; rw [stepG_loop]; simp only [goes_go]; refine ⟨dd_none _, ?_⟩; clear h₁)
      | (refine Goes.step rfl (fun w₁ h₁ => ?_); replace hF := hF.rely h₁; rw [stepG_inLoop]; simp only [goes_go]; refine ⟨dd_none _, ?_⟩; clear h₁)
      | (refine Goes.step rfl (fun w₁ h₁ => ?_); replace hF := hF.rely h₁; rw [stepG_region_end]; simp only [goes_go]; refine ⟨dd_none _, ?_⟩; clear h₁)
      | (refine Goes.step rfl (fun w₁ h₁ => ?_); replace hF := hF.rely h₁; rw [stepG_region]; simp only [goes_go, List.size_toArray, List.length_cons, List.length_nil, Nat.reduceAdd, Nat.zero_add, List.range, List.range.loop]; refine ⟨dd_none _, ?_⟩; clear h₁)
      | (refine Goes.step rfl (fun w₁ h₁ => ?_); replace hF := hF.rely h₁; refine goes_exit rfl ?_; refine ⟨dd_none _, ?_⟩; clear h₁)
      | (refine Goes.step rfl (fun w₁ h₁ => ?_); replace hF := hF.rely h₁; rw [stepG_cond rfl]; simp only [goes_go, if_true, if_false, Bool.false_eq_true, reduceIte]; refine ⟨dd_none _, ?_⟩; clear h₁)
      | (refine Goes.step rfl (fun w₁ h₁ => ?_); replace hF := hF.rely h₁; refine goes_oper_k rfl rfl (by decide) (fun K hK => ?_); go_simp; refine hK _ _ ⟨⟨LowK.refl _ _, fun e he => by have hm := mem_listed he; simp [go_sem] at hm⟩, ?_⟩; clear hK K h₁; try walk_nrm)
      )
    exact .inl fun w₁ h₁ => ⟨⟨_, at18h (T := T18b s cin ce (some ⟨z + 2, 0, none⟩) cp len j1 j7 j15 j16 j17 j18 j19 j20 j21 j22 j23 j24 j25 j26 j27 j28 j29 j30 j31 j32 j33 j34 j35) rfl ⟨cp, j1, j7, j15, j16, j17, j18, j19, j20, j21, j22, j23, j24, j25, j26, j27, j28, j29, j30, j31, j32, j33, j34, j35, rfl⟩⟩, (hF.rely h₁).c⟩
end Go.Proofs.Ytmdcpmfanpopgaa
/- Written by wip/tools/genend.py: Decode behind its last receive; its deferred close; its return. -/
namespace Go.Proofs.Ytmdcpmfanpopgaa
open Go Go.Conc Go.RowKit
set_option linter.unusedSimpArgs false
set_option linter.unusedVariables false

theorem loud18 : (Try.prog.funcs[(base 18).fn]?).any (·.norace) = false := by kernel_rfl
/-- Decode about to run its deferred close: with these results. -/
def AtEnd18 (ce : Nat) (m : Value) (n e : Int) (c : Frame) (cs : List Frame) (g : Goroutine) : Prop :=
  ∃ T todo, g = G { (base 18).at ⟨T, [closeD ce]⟩ todo with mode := .returning } (c :: cs) ∧ T.getD 2 undef = m ∧ T.getD 3 undef = .int .i64 n ∧ T.getD 4 undef = .int .i64 e

set_option maxHeartbeats 8000000 in
set_option maxRecDepth 100000 in
theorem end_empty (s : ByteArray) (cin ce : Nat) (c : Frame) (cs : List Frame) (w : World) :
    GoesW Try.prog true DM (fun g u => AtEnd18 ce (.slice none 0 0) 0 0 c cs g ∧ ∃ d, u = w.at d) (Go.Conc.served (R18 (T18 s cin ce) ce c cs) (recvd true zero79 false)) w := by
  unfold R18 todo18
  rw [served_fr, finish_op (o := recvOp) rfl]
  simp only [recvd, if_true, T18, recvOp, ops18, loop18, ret18, rest18, c18, Try.f18, Option.getD_some, rgt, lft, inn, regOps]
  walk_nrm
  repeat (first
    | with_reducible refine gw_seq ?_
    | with_reducible refine gw_skip ?_
    | with_reducible refine gw_inBlock ?_
    | with_reducible refine gw_block ?_
    | with_reducible refine gw_loop ?_
    | with_reducible refine gw_inLoop ?_
    | with_reducible refine gw_region_end ?_
    | (refine gw_region _ rfl ?_; simp only [List.size_toArray, List.length_cons, List.length_nil, Nat.reduceAdd, Nat.zero_add, List.range, List.range.loop])
    | (refine gw_exit rfl ?_)
    | (refine gw_cond _ rfl ?_; simp only [if_true, if_false, Bool.false_eq_true, reduceIte, Bool.not_true, Bool.not_false, decide_true, decide_false, decide_eq_true_eq, not_true_eq_false, not_false_eq_true])
    | (refine gw_unwanted rfl (by rfl) ?_; try walk_nrm)
    | (refine gw_op rfl (by rfl) (by decide) rfl (fun K hK => ?_); go_simp; refine hK _ _ rfl ?_; clear hK K; try walk_nrm)
    )
  exact gw_ret (.stop fun d => ⟨⟨_, _, rfl, rfl, rfl, rfl⟩, d, rfl⟩)

set_option maxHeartbeats 8000000 in
set_option maxRecDepth 100000 in
theorem end_one (s : ByteArray) (cin ce : Nat) (A : Option Addr) (cp : Nat) (len : Int) (j1 j7 j15 j16 j17 j18 j19 j20 j21 j22 j23 j24 j25 j26 j27 j28 j29 j30 j31 j32 j33 j34 j35 : Value) (c : Frame) (cs : List Frame) (w : World) :
    GoesW Try.prog true DM (fun g u => AtEnd18 ce (.slice A 1 cp) len 0 c cs g ∧ ∃ d, u = w.at d) (Go.Conc.served (R18 (T18b s cin ce A cp len j1 j7 j15 j16 j17 j18 j19 j20 j21 j22 j23 j24 j25 j26 j27 j28 j29 j30 j31 j32 j33 j34 j35) ce c cs) (recvd true zero79 false)) w := by
  unfold R18 todo18
  rw [served_fr, finish_op (o := recvOp) rfl]
  simp only [recvd, if_true, T18b, recvOp, ops18, loop18, ret18, rest18, c18, Try.f18, Option.getD_some, rgt, lft, inn, regOps]
  walk_nrm
  repeat (first
    | with_reducible refine gw_seq ?_
    | with_reducible refine gw_skip ?_
    | with_reducible refine gw_inBlock ?_
    | with_reducible refine gw_block ?_
    | with_reducible refine gw_loop ?_
    | with_reducible refine gw_inLoop ?_
    | with_reducible refine gw_region_end ?_
    | (refine gw_region _ rfl ?_; simp only [List.size_toArray, List.length_cons, List.length_nil, Nat.reduceAdd, Nat.zero_add, List.range, List.range.loop])
    | (refine gw_exit rfl ?_)
    | (refine gw_cond _ rfl ?_; simp only [if_true, if_false, Bool.false_eq_true, reduceIte, Bool.not_true, Bool.not_false, decide_true, decide_false, decide_eq_true_eq, not_true_eq_false, not_false_eq_true])
    | (refine gw_unwanted rfl (by rfl) ?_; try walk_nrm)
    | (refine gw_op rfl (by rfl) (by decide) rfl (fun K hK => ?_); go_simp; refine hK _ _ rfl ?_; clear hK K; try walk_nrm)
    )
  exact gw_ret (.stop fun d => ⟨⟨_, _, rfl, rfl, rfl, rfl⟩, d, rfl⟩)

theorem close18 {ce : Nat} {m : Value} {n e : Int} {c : Frame} {cs : List Frame} {g : Goroutine} (h : AtEnd18 ce m n e c cs g) : g.status = .running ∧ ∃ g', (∀ cap k u, u.heap[ce]? = some (.chan cap #[] false k k false) → stepG Try.prog true g u = .go g' (u.setChan ce cap #[] true k k false) (closeEvents ce)) ∧
    ∀ w, GoesW Try.prog true DM (fun g u => g = G (c.finish (.tuple #[m, .int .i64 n, .int .i64 e])) cs ∧ ∃ d, u = w.at d) g' w := by
  obtain ⟨T, todo, rfl, h2, h3, h4⟩ := h
  refine ⟨rfl, _, fun cap k u hc => stepG_deferred_close rfl hc loud18, fun w => ?_⟩
  refine gw_leave rfl rfl Try.func18 (fun u => ?_) (fun u => ?_) (.stop fun d => ⟨rfl, d, rfl⟩)
  · have e2 : T[2]?.getD undef = m := by rw [← h2, Array.getD_eq_getD_getElem?]
    have e3 : T[3]?.getD undef = .int .i64 n := by rw [← h3, Array.getD_eq_getD_getElem?]
    have e4 : T[4]?.getD undef = .int .i64 e := by rw [← h4, Array.getD_eq_getD_getElem?]
    simp [results, Try.f18, e2, e3, e4]
  · simp [results, Try.f18]
end Go.Proofs.Ytmdcpmfanpopgaa
/- The drivers: Decode of an empty text, and of a text of one record, from a machine in which all others only leave to such a machine. -/
namespace Go.Proofs.Ytmdcpmfanpopgaa
open Go Go.Conc Go.RowKit Go.Proofs.Ytmdcpmfanpopgaa.M
open Go.ConcN (sumTo upd sumTo_upd upd_ne upd_same)
set_option linter.unusedSimpArgs false
set_option linter.unusedVariables false

/-- Goroutine 0 holds, all others only leave. -/
abbrev Ring0 (B : Nat) (T : Trace) (gs : Array Goroutine) (w : World) (q : Nat → Nat) : Prop := Ring Try.prog KT NoStill B (fun g => g = 0) (fun _ => none) 0 T gs w q
/-- From g in world w, the others only leaving, the machine comes to Q. -/
def Reach (g : Goroutine) (w : World) (Q : Goroutine → World → Prop) : Prop :=
  ∀ (B : Nat) (gs : Array Goroutine) (sl : Option (Nat × Nat)) (T : Trace) (q : Nat → Nat), gs[0]? = some g → Ring0 B T gs w q →
    ∃ (N : Nat) (gs' : Array Goroutine) (sl' : Option (Nat × Nat)) (T' : Trace) (q' : Nat → Nat) (B' : Nat) (g' : Goroutine) (w' : World), runNT Try.prog N (crowd gs w sl) T = (.next (crowd gs' w' sl'), T') ∧ gs'[0]? = some g' ∧ Q g' w' ∧ Ring0 B' T' gs' w' q'

theorem Reach.trans {g : Goroutine} {w : World} {Q Q' : Goroutine → World → Prop} (h : Reach g w Q) (k : ∀ g' w', Q g' w' → Reach g' w' Q') : Reach g w Q' := by
  intro B gs sl T q hg R
  obtain ⟨N, gs1, sl1, T1, q1, B1, g1, w1, r1, h1, hQ, R1⟩ := h B gs sl T q hg R
  obtain ⟨N2, gs2, sl2, T2, q2, B2, g2, w2, r2, h2, hQ2, R2⟩ := k g1 w1 hQ B1 gs1 sl1 T1 q1 h1 R1
  exact ⟨N + N2, gs2, sl2, T2, q2, B2, g2, w2, runNT_then r1 r2, h2, hQ2, R2⟩
theorem Reach.walk {g : Goroutine} {w : World} {Stop : Goroutine → World → Prop} (h : GoesW Try.prog true DM Stop g w) : Reach g w Stop := by
  intro B gs sl T q hg R
  obtain ⟨N, gs', a', w', sl', T', q', B', hr, _, ha, hS, _, R'⟩ := hold_walkW (h := 0) (sl := sl) (fun _ _ _ => dm_dw) h hg R
  exact ⟨N, gs', sl', T', q', B', a', w', hr, ha, hS, R'⟩
theorem Reach.mono {g : Goroutine} {w : World} {Q Q' : Goroutine → World → Prop} (h : Reach g w Q) (k : ∀ g' w', Q g' w' → Q' g' w') : Reach g w Q' := by
  intro B gs sl T q hg R
  obtain ⟨N, gs1, sl1, T1, q1, B1, g1, w1, r1, h1, hQ, R1⟩ := h B gs sl T q hg R
  exact ⟨N, gs1, sl1, T1, q1, B1, g1, w1, r1, h1, k _ _ hQ, R1⟩

theorem Ring.remem' {P : Program} {K : World → Prop} {Still : Loc → Prop} {B : Nat} {Mem Mem' : Nat → Prop} {Inb : Nat → Option Seat} {h : Nat} {T : Trace} {gs : Array Goroutine} {w : World} {q : Nat → Nat}
    (C : Ring P K Still B Mem Inb h T gs w q) (h1 : ∀ g, Mem' g → Mem g) (h2 : ∀ i s, Inb i = some s → Mem' i) (h3 : ∀ i, Mem' i → Inb i ≠ none ∨ i = h) : Ring P K Still B Mem' Inb h T gs w q :=
  ⟨C.idle, C.chans, C.wf, C.live, C.inj, C.above, fun i s e => ⟨h2 i s e, (C.mem i s e).2⟩, h3, C.lo, PastG.fewer C.past h1, C.keep⟩

theorem two_size (W : World) : (two W).heap.size = W.heap.size + 2 := by unfold two; rw [size_alloc', size_alloc']
theorem two_fst (W : World) : (two W).heap[W.heap.size]? = some newChan := by
  unfold two
  rw [heap_alloc_lt _ (by rw [size_alloc']; omega)]; exact heap_alloc_self _ _
theorem two_snd (W : World) : (two W).heap[W.heap.size + 1]? = some newChan := by
  unfold two
  have := heap_alloc_self (W.alloc newChan) newChan
  rw [size_alloc'] at this
  exact this
theorem two_below (W : World) : Below W.heap.size W (two W) := ((Below.refl _ W).alloc (Nat.le_refl _) _).alloc (by rw [size_alloc']; omega) _
theorem two_chan {W : World} {c : Nat} (h : c = W.heap.size ∨ c = W.heap.size + 1) : (two W).heap[c]? = some newChan := by
  rcases h with rfl | rfl
  · exact two_fst W
  · exact two_snd W
theorem below_at {n : Nat} {a w : World} (h : Below n a w) (d : Nat) : Below n a (w.at d) := ⟨h.os, h.tape, h.output, h.size, h.block⟩

/-- Behind the last receive: to the return. -/
theorem dec_out {ce : Nat} {m : Value} {n e : Int} {c : Frame} {cs : List Frame} {g : Goroutine} {w : World} (h : AtEnd18 ce m n e c cs g) (hc : w.heap[ce]? = some newChan) {N : Nat} {W : World} (hb : Below N W w) (hN : N ≤ ce) :
    Reach g w (fun g' w' => g' = G (c.finish (.tuple #[m, .int .i64 n, .int .i64 e])) cs ∧ ∃ d, w' = (w.at d).setChan ce 0 #[] true 0 0 false) := by
  intro B gs sl T q hg R
  obtain ⟨hrun, g', hclose, hk⟩ := close18 h
  have R' : Ring0 (max B (ce + 1)) T gs w q := ring_mono R (Nat.le_max_left _ _)
  obtain ⟨N1, gs1, d1, sl1, T1, q1, r1, z1, h1, R1⟩ := hold_close (sl := sl) (c := ce) (cap := 0) (buf := #[]) (s := 0) (r := 0) (tm := false) (h := 0) (fun _ _ _ => trivial) (fun _ _ _ _ _ _ _ _ => trivial) hg hrun R' (fun i s e => by cases e) (by omega) (fun d => hclose 0 0 (w.at d) hc)
  obtain ⟨N2, gs2, sl2, T2, q2, B2, g2, w2, r2, h2, ⟨rfl, d2, rfl⟩, R2⟩ := Reach.walk (hk ((w.at d1).setChan ce 0 #[] true 0 0 false)) _ gs1 sl1 T1 q1 h1 R1
  exact ⟨N1 + N2, gs2, sl2, T2, q2, B2, _, _, runNT_then r1 r2, h2, ⟨rfl, d2, rfl⟩, R2⟩

/-- ████ Decode OF AN EMPTY TEXT ████ -/
theorem decode_empty {kf : Nat} (s : ByteArray) (hA : frame_All.f kf s = some ([], 0, 0)) (c : Frame) (cs : List Frame) (W : World) :
    Reach (G (Frame.enter Try.prog 18 #[.string s] .normal) (c :: cs)) W (fun g' w' => g' = G (c.finish (.tuple #[.slice none 0 0, .int .i64 0, .int .i64 0])) cs ∧ Below W.heap.size W w') := by
  intro B gs sl T q hg R
  obtain ⟨N0, gs0, a0, w0, sl0, T0, q0, B0, r0, z0, h0, ⟨cin, ce, hcc, ⟨d0, rfl⟩, hrun0, a1, hgo, hsit⟩, hB0, R0⟩ := hold_walkW (h := 0) (sl := sl) (fun _ _ _ => dm_dw) (dec_walk s c cs W) hg R
  have hcin : ((two W).at d0).heap[cin]? = some newChan := two_chan (by omega)
  have hce : ((two W).at d0).heap[ce]? = some newChan := two_chan (by omega)
  have hne : cin ≠ ce := by omega
  have R0' : Ring0 (max B0 (W.heap.size + 2)) T0 gs0 ((two W).at d0) q0 := ring_mono R0 (Nat.le_max_left _ _)
  have R1 := R0'.reseat rfl (seat18 (T18 s cin ce) cin ce c cs) (Seat.one_wf _ _ _ _) (fun _ _ _ _ e => by cases e) (fun c' hc' => ⟨0, 0, by rw [Seat.one_has.1 hc']; exact hcin⟩) (fun c' hc' => by rw [Seat.one_has.1 hc']; omega)
  have hpos : 0 < gs0.size := (Array.getElem?_eq_some_iff.1 h0).1
  obtain ⟨N1, gs1, d1, sl1, T1, q1, r1, z1, h1, R2⟩ := hire_give (sl := sl0) (fun _ _ _ => trivial) (h := 0) (Mem := fun g => g = 0) rfl h0 hrun0 (fun d => hgo _) (by simp) R1 (by rw [upd_ne _ _ (by omega)]) (Inb' := upd (fun _ => none) 0 (some (seat18 (T18 s cin ce) cin ce c cs))) (fun _ _ => rfl) (.inl rfl) (nh := 11) (fun _ _ => by rw [upd_same]; exact hsit _)
  have hm : (gs0.size == 0) = false := beq_eq_false_iff_ne.2 (by omega)
  have hwalk := gw_mild (tell_empty (kf := kf) s hA cin ce (((two W).at d0).at d1))
  rw [← hm] at hwalk
  obtain ⟨N2, gs2, a2, w2, sl2, T2, q2, B2, r2, z2, h2, ⟨⟨hshut, hbel2⟩, hmild2⟩, hB2, R3⟩ := hold_walkW (h := gs0.size) (sl := sl1) (fun _ _ _ => dm_dw) hwalk h1 R2
  rw [hm] at hshut
  obtain ⟨hrun2, hwake2, a2', ha2', hclose2, hQ2⟩ := hshut
  have hcin2 : w2.heap[cin]? = some newChan := hmild2.chan _ _ _ _ _ _ _ hcin
  have hce2 : w2.heap[ce]? = some newChan := hmild2.chan _ _ _ _ _ _ _ hce
  obtain ⟨N3, gs3, g₂, d3, sl3, T3, q3, r3, z3, h3, hhome, R4⟩ := give_close (sl := sl2) (j := 0) (h := gs0.size) (k := 0) (c := cin) (kk := 0) (z := zero79) (s := seat18 (T18 s cin ce) cin ce c cs) (fun _ _ _ => trivial) (fun _ _ _ _ _ _ _ _ _ _ _ _ _ => trivial)
    (by omega) (by omega) (upd_same _ _ _) rfl (.inr rfl) h2 hrun2 hwake2 ha2' hcin2 (fun d => by rw [hm]; exact hclose2 0 0 hcin2 d) R3 (Inb' := fun _ => none) (fun x hx h0 => by rw [upd_ne _ _ h0]) (.inr rfl) rfl (nh := 2) (fun T' hd => ⟨by omega, hd ▸ hQ2⟩)
  have R5 : Ring0 B2 T3 gs3 ((w2.at d3).setChan cin 0 #[] true 0 0 false) q3 := Ring.remem' R4 (fun g hg => ⟨by subst hg; exact .inl ⟨rfl, by rw [upd_same]; simp⟩, .inr hg⟩) (fun i s e => by cases e) (fun i hi => .inr hi)
  obtain rfl : g₂ = R18 (T18 s cin ce) ce c cs := hhome
  have h3' : gs3[0]? = some (Go.Conc.served (R18 (T18 s cin ce) ce c cs) (recvd true zero79 false)) := h3
  obtain ⟨N4, gs4, sl4, T4, q4, B4, g4, w4, r4, h4, ⟨hend, d4, rfl⟩, R6⟩ := Reach.walk (end_empty s cin ce c cs ((w2.at d3).setChan cin 0 #[] true 0 0 false)) _ gs3 sl3 T3 q3 h3' R5
  have hb2 : Below W.heap.size W w2 := below_step' (below_at (below_at (two_below W) d0) d1) (by show W.heap.size ≤ (two W).heap.size; rw [two_size]; omega) hbel2
  have hb4 : Below W.heap.size W (((w2.at d3).setChan cin 0 #[] true 0 0 false).at d4) := below_at (below_setChan (below_at hb2 d3) (by omega) _ _ _ _ _ _) d4
  have hce4 : (((w2.at d3).setChan cin 0 #[] true 0 0 false).at d4).heap[ce]? = some newChan := (heap_setChan_ne _ _ _ _ _ _ _ hne).trans hce2
  obtain ⟨N5, gs5, sl5, T5, q5, B5, g5, w5, r5, h5, ⟨rfl, d5, rfl⟩, R7⟩ := dec_out hend hce4 hb4 (by omega) _ gs4 sl4 T4 q4 h4 R6
  exact ⟨N0 + N1 + N2 + N3 + N4 + N5, gs5, sl5, T5, q5, B5, _, _, runNT_then (runNT_then (runNT_then (runNT_then (runNT_then r0 r1) r2) r3) r4) r5, h5, ⟨rfl, below_setChan (below_at hb4 d5) (by omega) _ _ _ _ _ _⟩, R7⟩
end Go.Proofs.Ytmdcpmfanpopgaa
/- The driver of Decode of a text of one record. -/
namespace Go.Proofs.Ytmdcpmfanpopgaa
open Go Go.Conc Go.RowKit Go.Proofs.Ytmdcpmfanpopgaa.M
open Go.ConcN (sumTo upd sumTo_upd upd_ne upd_same)
set_option linter.unusedSimpArgs false
set_option linter.unusedVariables false

/-- What a walk's rely and guarantee keep stands at its stop. -/
theorem goes_since {P : Program} {main : Bool} {R : World → World → Prop} {D : World → World → Array Event → Prop} {Stop : Goroutine → World → Prop} {S : World → World → Prop} {w₀ : World} (hR : ∀ a b, S w₀ a → R a b → S w₀ b) (hD : ∀ a b es, S w₀ a → D a b es → S w₀ b) {n : Nat} :
    ∀ {g : Goroutine} {w : World}, S w₀ w → Goes P main R D Stop n g w → Goes P main R D (fun g' w' => Stop g' w' ∧ S w₀ w') n g w := by
  induction n with
  | zero => exact fun hS h w₁ h₁ => ⟨h w₁ h₁, hR _ _ hS h₁⟩
  | succ n ih =>
    intro g w hS h
    rcases h with h | ⟨hr, h⟩
    · exact .inl fun w₁ h₁ => ⟨h w₁ h₁, hR _ _ hS h₁⟩
    · refine .inr ⟨hr, fun w₁ h₁ => ?_⟩
      have := h w₁ h₁
      cases hgo : stepG P main g w₁ with
      | go g' w' es => rw [hgo, goes_go] at this; exact ⟨this.1, ih (hD _ _ _ (hR _ _ hS h₁) this.1) this.2⟩
      | _ => rw [hgo] at this; exact this.elim

/-- All below z but the channel stands. -/
structure KeepX (z cin : Nat) (w w' : World) : Prop where
  heap : ∀ k, k < z → k ≠ cin → w'.heap[k]? = w.heap[k]?
  tape : w'.tape = w.tape
  os : w'.os = w.os
  output : w'.output = w.output
  size : w.heap.size ≤ w'.heap.size
theorem KeepX.refl (z cin : Nat) (w : World) : KeepX z cin w w := ⟨fun _ _ _ => rfl, rfl, rfl, rfl, Nat.le_refl _⟩
theorem KeepX.at {z cin : Nat} {w w' : World} (h : KeepX z cin w w') (d : Nat) : KeepX z cin w (w'.at d) := ⟨h.heap, h.tape, h.os, h.output, h.size⟩
theorem KeepX.setChan {z cin : Nat} {w w' : World} (h : KeepX z cin w w') (cap : Nat) (buf : Array Value) (cl : Bool) (a b : Nat) (tm : Bool) : KeepX z cin w (w'.setChan cin cap buf cl a b tm) :=
  ⟨fun k hk hn => (heap_setChan_ne _ _ _ _ _ _ _ (fun e => hn e.symm)).trans (h.heap k hk hn), h.tape, h.os, h.output, by simp only [World.setChan, Array.size_setIfInBounds]; exact h.size⟩
theorem KeepX.rc {z cin : Nat} {w a b : World} (h : KeepX z cin w a) (r : RC cin a b) : KeepX z cin w b := by
  obtain ⟨d, rfl | ⟨cap, k, rfl⟩⟩ := r
  · exact h.at d
  · exact (h.at d).setChan _ _ _ _ _ _
theorem KeepX.low {z cin : Nat} {w a b : World} (h : KeepX z cin w a) (l : LowK z a b) : KeepX z cin w b :=
  ⟨fun k hk hn => (l.heap k hk).trans (h.heap k hk hn), l.tape.trans h.tape, l.os.trans h.os, l.output.trans h.output, Nat.le_trans h.size l.size⟩
theorem KeepX.below {z cin n : Nat} {W w w' : World} (h : KeepX z cin w w') (hb : Below n W w) (hn : n ≤ cin) (hz : n ≤ z) : Below n W w' :=
  ⟨h.os.trans hb.os, h.tape.trans hb.tape, h.output.trans hb.output, Nat.le_trans hb.size h.size, fun k hk => (h.heap k (by omega) (by omega)).trans (hb.block k hk)⟩

/-- ████ Decode OF A TEXT OF ONE RECORD ████ -/
theorem decode_one {kf : Nat} (s bt t p : ByteArray) (len n1 n2 n3 a1 a2 a3 a4 : Int) (hA : frame_All.f kf s = some ([bt], len, 0))
    (h1 : vint_Get.f kf bt 0 = some (n1, a1, 0)) (h2 : vint_Get.f kf bt a1 = some (n2, a2, 0)) (h3 : vint_Get.f kf bt a2 = some (n3, a3, 0)) (h4 : vint_GetText.f kf bt a3 = some (t, a4, 0)) (h5 : trace_Put.f kf n1 n2 n3 t = some (bt, 0))
    (hn1 : 0 ≤ n1) (h6 : frame_Put.f kf bt = some (p, 0)) (hlen : IntKind.i64.wrap (p.size : Int) = p.size) (c : Frame) (cs : List Frame) (W : World) :
    Reach (G (Frame.enter Try.prog 18 #[.string s] .normal) (c :: cs)) W (fun g' w' => ∃ y cp, g' = G (c.finish (.tuple #[.slice (some ⟨y, 0, none⟩) 1 cp, .int .i64 p.size, .int .i64 0])) cs ∧ w'.cell? ⟨y, 0, none⟩ = some (.int .i64 n1) ∧ Below W.heap.size W w') := by
  intro B gs sl T q hg R
  obtain ⟨N0, gs0, a0, w0, sl0, T0, q0, B0, r0, z0, h0, ⟨cin, ce, hcc, ⟨d0, rfl⟩, hrun0, a1', hgo, hsit⟩, hB0, R0⟩ := hold_walkW (h := 0) (sl := sl) (fun _ _ _ => dm_dw) (dec_walk s c cs W) hg R
  have hcin : ((two W).at d0).heap[cin]? = some newChan := two_chan (by omega)
  have hce : ((two W).at d0).heap[ce]? = some newChan := two_chan (by omega)
  have hne : cin ≠ ce := by omega
  have R0' : Ring0 (max B0 (W.heap.size + 2)) T0 gs0 ((two W).at d0) q0 := ring_mono R0 (Nat.le_max_left _ _)
  have R1 := R0'.reseat rfl (seat18 (T18 s cin ce) cin ce c cs) (Seat.one_wf _ _ _ _) (fun _ _ _ _ e => by cases e) (fun c' hc' => ⟨0, 0, by rw [Seat.one_has.1 hc']; exact hcin⟩) (fun c' hc' => by rw [Seat.one_has.1 hc']; omega)
  have hpos : 0 < gs0.size := (Array.getElem?_eq_some_iff.1 h0).1
  obtain ⟨N1, gs1, d1, sl1, T1, q1, r1, z1, hh1, R2⟩ := hire_give (sl := sl0) (fun _ _ _ => trivial) (h := 0) (Mem := fun g => g = 0) rfl h0 hrun0 (fun d => hgo _) (by simp) R1 (by rw [upd_ne _ _ (by omega)]) (Inb' := upd (fun _ => none) 0 (some (seat18 (T18 s cin ce) cin ce c cs))) (fun _ _ => rfl) (.inl rfl) (nh := 11) (fun _ _ => by rw [upd_same]; exact hsit _)
  have hm : (gs0.size == 0) = false := beq_eq_false_iff_ne.2 (by omega)
  have hwalk := gw_mild (tell_one (kf := kf) s bt t p len n1 n2 n3 a1 a2 a3 a4 hA h1 h2 h3 h4 h5 hn1 h6 cin ce (((two W).at d0).at d1))
  rw [← hm] at hwalk
  obtain ⟨N2, gs2, a2', w2, sl2, T2, q2, B2, r2, z2, hh2, ⟨⟨X, hTS, hrun2, a₂, z', ze, hsel, hbehind⟩, hmild2⟩, hB2, R3⟩ := hold_walkW (h := gs0.size) (sl := sl1) (fun _ _ _ => dm_dw) hwalk hh1 R2
  have hcin2 : w2.heap[cin]? = some newChan := hmild2.chan _ _ _ _ _ _ _ hcin
  have hce2 : w2.heap[ce]? = some newChan := hmild2.chan _ _ _ _ _ _ _ hce
  -- the told record's block; the bound
  have hts : W.heap.size + 2 ≤ X := by have := hTS.low; have e := two_size W; rw [show (((two W).at d0).at d1).heap.size = (two W).heap.size from rfl] at this; omega
  have hXz : X < w2.heap.size := hTS.size
  generalize hz : w2.heap.size = z at hXz
  have R3' : Ring Try.prog KT NoStill (max B2 (z + 3)) _ _ gs0.size T2 gs2 w2 q2 := ring_mono R3 (Nat.le_max_left _ _)
  generalize hB : max B2 (z + 3) = B3 at R3'
  have hzB : z + 3 ≤ B3 := by omega
  obtain ⟨N3, m3, T3, r3, gs3, g₂, d3, sl3, q3, rfl, z3, h30, hhome, h3h, hDuo⟩ := give_sel (sl := sl2) (h := gs0.size) (c := cin) (e := ce) (z := zero79) (z' := z') (ze := ze) (ok := true) (by omega) (by omega) (upd_same _ _ _) (fun x hx => by rw [upd_ne _ _ hx]) (.inr rfl) hh2 hrun2 (fun d => by rw [hm]; exact hsel _) (by simp) R3' hcin2 hce2 hne
  obtain rfl : g₂ = R18 (T18 s cin ce) ce c cs := hhome
  generalize hxs : (#[.int .i64 n1, .int .i64 n2, .int .i64 n3, .string t, .int .i64 p.size, .int .i64 0] : Array Value) = xs at *
  generalize hw3 : (w2.at d3).setChan cin 0 #[] false (0 + 1) (0 + 1) false = w3 at *
  have hcinX : X ≠ cin := by omega
  have hsize3 : w3.heap.size = z := by rw [← hw3, ← hz]; simp only [World.setChan, Array.size_setIfInBounds]; rfl
  have hx3 : KX X xs w3 := by rw [← hw3]; exact (heap_setChan_ne _ _ _ _ _ _ _ (fun e => hcinX e.symm)).trans hTS.x
  have hc3 : w3.heap[cin]? = some (.chan 0 #[] false 1 1 false) := by rw [← hw3]; exact heap_setChan_self _ hcin2 _ _ _ _ _ _
  have hce3 : w3.heap[ce]? = some newChan := by rw [← hw3]; exact (heap_setChan_ne _ _ _ _ _ _ _ hne).trans hce2
  have hmw := m_walk s t n1 n2 n3 p.size X cin ce z B3 (by omega) (by omega) hzB hlen c cs w3 ⟨hsize3⟩
  rw [hxs] at hmw
  have hM3 := goes_since (S := fun a b => KeepX z cin a b) (w₀ := w3) (fun a b h r => h.rc r) (fun a b es h hd => h.low hd.1) (KeepX.refl _ _ _) hmw
  obtain ⟨N4, m4, T4, r4, gs4, g4, w4, sl4, q4, rfl, z4, h40, ⟨cp, j1, j7, j15, j16, j17, j18, j19, j20, j21, j22, j23, j24, j25, j26, j27, j28, j29, j30, j31, j32, j33, j34, j35, rfl⟩, ⟨hcell, hkeep⟩, hL, hP⟩ :=
    tail (Still := StX X cin) (B := B3) (a := gs0.size) (c := cin) (z := zero79) (ok := true) (KA := KX X xs) (F := fun w => w.cell? ⟨z + 2, 0, none⟩ = some (.int .i64 n1) ∧ KeepX z cin w3 w) (DD := DX X cin z B3) (nq := 2) (sl := sl3) (n := gs2.size)
      (by omega) (by omega) (stX_mem X cin) (.inr rfl) (fun _ _ h => h) (fun w d h => ⟨h.1, h.2.at d⟩)
      (fun w cap k h => ⟨by have := h.1; unfold World.cell? at this ⊢; rw [heap_setChan_ne _ _ _ _ _ _ _ (by show cin ≠ z + 2; omega)]; exact this, h.2.setChan _ _ _ _ _ _⟩)
      (fun w w' es h => ⟨fun hk => (h.1.heap X hXz).trans hk, h.1.heap cin (by omega), h.2⟩) z3 h30 h3h (goes_mono (fun _ _ _ h => h) (fun g u h => ⟨h.1.1, h.1.2, h.2⟩) hM3) (hbehind (StX X cin) B3 (fun o => .inl ⟨o, rfl⟩) (by omega) w3) hx3 hc3 (hDuo (StX X cin) (stX_mem X cin))
  have R5 : Ring0 B3 T4 gs4 w4 q4 := ring_begin (fun l hl => hl.elim) hL hP trivial
  obtain ⟨N5, gs5, sl5, T5, q5, B5, g5, w5, r5, h50, ⟨hend, d5, rfl⟩, R6⟩ := Reach.walk (end_one s cin ce (some ⟨z + 2, 0, none⟩) cp p.size j1 j7 j15 j16 j17 j18 j19 j20 j21 j22 j23 j24 j25 j26 j27 j28 j29 j30 j31 j32 j33 j34 j35 c cs w4) _ gs4 sl4 T4 q4 h40 R5
  have hb2 : Below W.heap.size W w2 := below_step' (below_at (below_at (two_below W) d0) d1) (by show W.heap.size ≤ (two W).heap.size; rw [two_size]; omega) hTS.below
  have hb3 : Below W.heap.size W w3 := by rw [← hw3]; exact below_setChan (below_at hb2 d3) (by omega) _ _ _ _ _ _
  have hb5 : Below W.heap.size W (w4.at d5) := below_at (hkeep.below hb3 (by omega) (by omega)) d5
  have hce5 : (w4.at d5).heap[ce]? = some newChan := (hkeep.heap ce (by omega) (fun e => hne e.symm)).trans hce3
  obtain ⟨N6, gs6, sl6, T6, q6, B6, g6, w6, r6, h60, ⟨rfl, d6, rfl⟩, R7⟩ := dec_out hend hce5 hb5 (by omega) _ gs5 sl5 T5 q5 h50 R6
  refine ⟨N0 + N1 + N2 + N3 + N4 + N5 + N6, gs6, sl6, T6, q6, B6, _, _, runNT_then (runNT_then (runNT_then (runNT_then (runNT_then (runNT_then r0 r1) r2) r3) r4) r5) r6, h60, ⟨z + 2, cp, rfl, ?_, below_setChan (below_at hb5 d6) (by omega) _ _ _ _ _ _⟩, R7⟩
  unfold World.cell? at hcell ⊢
  rw [heap_setChan_ne _ _ _ _ _ _ _ (by show ce ≠ z + 2; omega)]
  exact hcell
end Go.Proofs.Ytmdcpmfanpopgaa
/- The one record's bytes: awake's texts are known ones. -/
namespace Go.Proofs.Ytmdcpmfanpopgaa
open Go Go.Proofs.Ytmdcpmfanpopgaa.M
/-- The record as bytes; the record framed. -/
def recB : ByteArray := ⟨#[6, 8, 0, 2, 120]⟩
def encB : ByteArray := ⟨#[10, 6, 8, 0, 2, 120, 23, 72, 85, 255]⟩
theorem b_all0 : frame_All.f 100 ⟨#[]⟩ = some ([], 0, 0) := by kernel_rfl
theorem b_put : trace_Put.f 100 3 4 0 ⟨#[120]⟩ = some (recB, 0) := by kernel_rfl
theorem b_frame : frame_Put.f 100 recB = some (encB, 0) := by kernel_rfl
theorem b_enc : trace_Encode.f 100 [⟨3, ⟨4, 0, ⟨#[120]⟩⟩⟩] = some (encB, 0) := by kernel_rfl
theorem b_all : frame_All.f 100 encB = some ([recB], 10, 0) := by kernel_rfl
theorem b_get1 : vint_Get.f 100 recB 0 = some (3, 1, 0) := by kernel_rfl
theorem b_get2 : vint_Get.f 100 recB 1 = some (4, 2, 0) := by kernel_rfl
theorem b_get3 : vint_Get.f 100 recB 2 = some (0, 3, 0) := by kernel_rfl
theorem b_get4 : vint_GetText.f 100 recB 3 = some (⟨#[120]⟩, 5, 0) := by kernel_rfl
theorem b_size : (encB.size : Int) = 10 := by kernel_rfl
end Go.Proofs.Ytmdcpmfanpopgaa
/- Written by wip/tools/genawake.py: the law's awake: Decode of an empty text, Encode, Decode of one record. -/
namespace Go.Proofs.Ytmdcpmfanpopgaa
open Go Go.Conc Go.RowKit Go.Proofs.Ytmdcpmfanpopgaa.M Go.Proofs.YtmdcpmfanpopgaaW.PrintWords Go.Proofs.YtmdcpmfanpopgaaW.PrintLast Go.Proofs.YtmdcpmfanpopgaaW.PrintMore
set_option linter.unusedSimpArgs false
set_option linter.unusedVariables false

theorem Reach.join {g : Goroutine} {w : World} {Q : Goroutine → World → Prop} (h : GoesW Try.prog true DM (fun g w => Reach g w Q) g w) : Reach g w Q := (Reach.walk h).trans fun _ _ h => h
theorem Reach.done {g : Goroutine} {w : World} {Q : Goroutine → World → Prop} (h : Q g w) : Reach g w Q := fun B gs sl T q hg R => ⟨0, gs, sl, T, q, B, g, w, rfl, hg, h, R⟩

def theRec : S27 := ⟨3, ⟨4, 0, ⟨#[120]⟩⟩⟩
theorem rec_row {w : World} {y : Nat} (h : w.heap[y]? = some (.cells #[.int .i64 3, .int .i64 4, .int .i64 0, .string ⟨#[120]⟩] 27 (0, 0))) : Kd.C k27 w (some ⟨y, 0, none⟩) 1 [theRec] := by
  refine ⟨rfl, by decide, fun _ => ⟨⟨y, 0, none⟩, rfl, fun j p hj => ?_⟩⟩
  rcases j with _ | j
  · obtain rfl : theRec = p := by simpa using hj
    refine ⟨_, rfl, k27_mk w theRec, fun i u hu => ?_⟩
    rw [show (⟨y, 0, none⟩ : Addr).add (0 * k27.sz + i) = ⟨y, i, none⟩ by simp [Addr.add]; exact fun h => h.symm]
    rw [cell_of h]
    rcases i with _ | _ | _ | _ | i
    · exact hu
    · exact hu
    · exact hu
    · exact hu
    · simp at hu
  · simp at hj

set_option maxHeartbeats 8000000 in
set_option maxRecDepth 100000 in
/-- awake answers true. -/
theorem awake_reach (c : Frame) (cs : List Frame) (W : World) : Reach (G (Frame.enter Try.prog 8 #[] .normal) (c :: cs)) W (fun g' w' => g' = G (c.finish (.bool true)) cs ∧ Below W.heap.size W w') := by
  refine Reach.join (gw_enter Try.func8 rfl ?_)
  simp only [Try.f8]
  walk_nrm
  repeat (first
    | with_reducible refine gw_seq ?_
    | with_reducible refine gw_skip ?_
    | with_reducible refine gw_inBlock ?_
    | with_reducible refine gw_block ?_
    | with_reducible refine gw_loop ?_
    | with_reducible refine gw_inLoop ?_
    | with_reducible refine gw_region_end ?_
    | (refine gw_region _ rfl ?_; simp only [List.size_toArray, List.length_cons, List.length_nil, Nat.reduceAdd, Nat.zero_add, List.range, List.range.loop])
    | (refine gw_exit rfl ?_)
    | (refine gw_cond _ rfl ?_; simp only [if_true, if_false, Bool.false_eq_true, reduceIte, Bool.not_true, Bool.not_false, decide_true, decide_false, decide_eq_true_eq, not_true_eq_false, not_false_eq_true])
    | (refine gw_unwanted rfl (by rfl) ?_; try walk_nrm)
    | (refine gw_op rfl (by rfl) (by decide) rfl (fun K hK => ?_); go_simp; refine hK _ _ rfl ?_; clear hK K; try walk_nrm)
    )
  refine gw_into (args := #[.string ⟨#[]⟩]) rfl (by rfl) (by decide) rfl Try.func18 rfl (by kernel_rfl) (by simp only [List.map_toArray, List.map_cons, List.map_nil, Act.eval] <;> rfl) ?_
  refine .stop fun d => (decode_empty (kf := 100) ⟨#[]⟩ b_all0 _ _ _).trans ?_
  rintro g w1 ⟨rfl, hb1'⟩
  have hb1 : Below W.heap.size W w1 := ⟨hb1'.os, hb1'.tape, hb1'.output, hb1'.size, hb1'.block⟩
  clear hb1' d
  rw [finish_op rfl]
  refine Reach.join ?_
  walk_nrm
  repeat (first
    | with_reducible refine gw_seq ?_
    | with_reducible refine gw_skip ?_
    | with_reducible refine gw_inBlock ?_
    | with_reducible refine gw_block ?_
    | with_reducible refine gw_loop ?_
    | with_reducible refine gw_inLoop ?_
    | with_reducible refine gw_region_end ?_
    | (refine gw_region _ rfl ?_; simp only [List.size_toArray, List.length_cons, List.length_nil, Nat.reduceAdd, Nat.zero_add, List.range, List.range.loop])
    | (refine gw_exit rfl ?_)
    | (refine gw_cond _ rfl ?_; simp only [if_true, if_false, Bool.false_eq_true, reduceIte, Bool.not_true, Bool.not_false, decide_true, decide_false, decide_eq_true_eq, not_true_eq_false, not_false_eq_true])
    | (refine gw_unwanted rfl (by rfl) ?_; try walk_nrm)
    | (refine gw_op rfl (by rfl) (by decide) rfl (fun K hK => ?_); go_simp; refine hK _ _ rfl ?_; clear hK K; try walk_nrm)
    )
  have hrow := rec_row (w := w1.alloc (.cells #[.int .i64 3, .int .i64 4, .int .i64 0, .string ⟨#[120]⟩] 27)) (heap_alloc_self w1 _)
  refine gw_callB (args := #[.slice (some ⟨w1.heap.size, 0, none⟩) 1 1]) (.tuple #[.string encB, .int .i64 0]) rfl (by rfl) (by decide) rfl Try.func16 rfl (by kernel_rfl) (by simp only [List.map_toArray, List.map_cons, List.map_nil, Act.eval] <;> rfl) (ent_ok rfl rfl) (fun u hu => trace_Encode.calls 100 (some ⟨w1.heap.size, 0, none⟩) 1 [theRec] encB 0 u (by unfold Kd.C ReadsRow World.cell? at hrow ⊢; rw [hu]; exact hrow) (Nat.le_refl _) b_enc) ?_
  intro w2 hb2'
  have hb2 : Below W.heap.size W w2 := below_step' (hb1.alloc hb1.size _) (by rw [size_alloc']; exact Nat.le_succ_of_le hb1.size) hb2'
  clear hb2' hrow hb1
  try walk_nrm
  repeat (first
    | with_reducible refine gw_seq ?_
    | with_reducible refine gw_skip ?_
    | with_reducible refine gw_inBlock ?_
    | with_reducible refine gw_block ?_
    | with_reducible refine gw_loop ?_
    | with_reducible refine gw_inLoop ?_
    | with_reducible refine gw_region_end ?_
    | (refine gw_region _ rfl ?_; simp only [List.size_toArray, List.length_cons, List.length_nil, Nat.reduceAdd, Nat.zero_add, List.range, List.range.loop])
    | (refine gw_exit rfl ?_)
    | (refine gw_cond _ rfl ?_; simp only [if_true, if_false, Bool.false_eq_true, reduceIte, Bool.not_true, Bool.not_false, decide_true, decide_false, decide_eq_true_eq, not_true_eq_false, not_false_eq_true])
    | (refine gw_unwanted rfl (by rfl) ?_; try walk_nrm)
    | (refine gw_op rfl (by rfl) (by decide) rfl (fun K hK => ?_); go_simp; refine hK _ _ rfl ?_; clear hK K; try walk_nrm)
    )
  refine gw_into (args := #[.string encB]) rfl (by rfl) (by decide) rfl Try.func18 rfl (by kernel_rfl) (by simp only [List.map_toArray, List.map_cons, List.map_nil, Act.eval] <;> rfl) ?_
  refine .stop fun d => (decode_one (kf := 100) encB recB ⟨#[120]⟩ encB 10 3 4 0 1 2 3 5 b_all b_get1 b_get2 b_get3 b_get4 b_put (by decide) b_frame (by rw [b_size]; decide) _ _ _).trans ?_
  rintro g w3 ⟨y, cp, rfl, hcell, hb3'⟩
  have hb3 : Below W.heap.size W w3 := below_step' hb2 hb2.size ⟨hb3'.os, hb3'.tape, hb3'.output, hb3'.size, hb3'.block⟩
  clear hb3' d hb2
  rw [finish_op rfl, b_size]
  refine Reach.join ?_
  have hw1 : IntKind.i64.wrap 10 = 10 := by decide
  walk_nrm
  repeat (first
    | with_reducible refine gw_seq ?_
    | with_reducible refine gw_skip ?_
    | with_reducible refine gw_inBlock ?_
    | with_reducible refine gw_block ?_
    | with_reducible refine gw_loop ?_
    | with_reducible refine gw_inLoop ?_
    | with_reducible refine gw_region_end ?_
    | (refine gw_region _ rfl ?_; simp only [List.size_toArray, List.length_cons, List.length_nil, Nat.reduceAdd, Nat.zero_add, List.range, List.range.loop])
    | (refine gw_exit rfl ?_)
    | (refine gw_cond _ rfl ?_; simp only [if_true, if_false, Bool.false_eq_true, reduceIte, Bool.not_true, Bool.not_false, decide_true, decide_false, decide_eq_true_eq, not_true_eq_false, not_false_eq_true])
    | (refine gw_unwanted rfl (by rfl) ?_; try walk_nrm)
    | (refine gw_op rfl (by rfl) (by decide) rfl (fun K hK => ?_); go_simp; refine hK _ _ rfl ?_; clear hK K; try walk_nrm)
    )
  refine gw_callB (args := #[.int .i64 0]) (.int .i64 0) rfl (by rfl) (by decide) rfl Try.func13 rfl (by kernel_rfl) (by simp only [List.map_toArray, List.map_cons, List.map_nil, Act.eval] <;> rfl) (ent_ok rfl rfl) (fun u hu => (boomeranglaw1_Err.calls 0 0 u rfl).mono fun e w' h => ⟨h.1, h.2.below⟩) ?_
  intro w4 hb4
  replace hcell := (hb4.cell (World.block_lt_of_cell? w3 _ hcell)).trans hcell
  replace hb3 := below_step' hb3 hb3.size hb4
  clear hb4
  revert hcell
  revert hb3
  clear w3
  revert w4
  intro w3 hb3 hcell
  try walk_nrm
  repeat (first
    | with_reducible refine gw_seq ?_
    | with_reducible refine gw_skip ?_
    | with_reducible refine gw_inBlock ?_
    | with_reducible refine gw_block ?_
    | with_reducible refine gw_loop ?_
    | with_reducible refine gw_inLoop ?_
    | with_reducible refine gw_region_end ?_
    | (refine gw_region _ rfl ?_; simp only [List.size_toArray, List.length_cons, List.length_nil, Nat.reduceAdd, Nat.zero_add, List.range, List.range.loop])
    | (refine gw_exit rfl ?_)
    | (refine gw_cond _ rfl ?_; simp only [if_true, if_false, Bool.false_eq_true, reduceIte, Bool.not_true, Bool.not_false, decide_true, decide_false, decide_eq_true_eq, not_true_eq_false, not_false_eq_true])
    | (refine gw_unwanted rfl (by rfl) ?_; try walk_nrm)
    | (refine gw_op rfl (by rfl) (by decide) rfl (fun K hK => ?_); go_simp; refine hK _ _ rfl ?_; clear hK K; try walk_nrm)
    )
  refine gw_callB (args := #[.int .i64 0]) (.int .i64 0) rfl (by rfl) (by decide) rfl Try.func13 rfl (by kernel_rfl) (by simp only [List.map_toArray, List.map_cons, List.map_nil, Act.eval] <;> rfl) (ent_ok rfl rfl) (fun u hu => (boomeranglaw1_Err.calls 0 0 u rfl).mono fun e w' h => ⟨h.1, h.2.below⟩) ?_
  intro w4 hb4
  replace hcell := (hb4.cell (World.block_lt_of_cell? w3 _ hcell)).trans hcell
  replace hb3 := below_step' hb3 hb3.size hb4
  clear hb4
  revert hcell
  revert hb3
  clear w3
  revert w4
  intro w3 hb3 hcell
  try walk_nrm
  repeat (first
    | with_reducible refine gw_seq ?_
    | with_reducible refine gw_skip ?_
    | with_reducible refine gw_inBlock ?_
    | with_reducible refine gw_block ?_
    | with_reducible refine gw_loop ?_
    | with_reducible refine gw_inLoop ?_
    | with_reducible refine gw_region_end ?_
    | (refine gw_region _ rfl ?_; simp only [List.size_toArray, List.length_cons, List.length_nil, Nat.reduceAdd, Nat.zero_add, List.range, List.range.loop])
    | (refine gw_exit rfl ?_)
    | (refine gw_cond _ rfl ?_; simp only [if_true, if_false, Bool.false_eq_true, reduceIte, Bool.not_true, Bool.not_false, decide_true, decide_false, decide_eq_true_eq, not_true_eq_false, not_false_eq_true])
    | (refine gw_unwanted rfl (by rfl) ?_; try walk_nrm)
    | (refine gw_op rfl (by rfl) (by decide) rfl (fun K hK => ?_); go_simp; refine hK _ _ rfl ?_; clear hK K; try walk_nrm)
    )
  refine gw_callB (args := #[.int .i64 0]) (.int .i64 0) rfl (by rfl) (by decide) rfl Try.func13 rfl (by kernel_rfl) (by simp only [List.map_toArray, List.map_cons, List.map_nil, Act.eval] <;> rfl) (ent_ok rfl rfl) (fun u hu => (boomeranglaw1_Err.calls 0 0 u rfl).mono fun e w' h => ⟨h.1, h.2.below⟩) ?_
  intro w4 hb4
  replace hcell := (hb4.cell (World.block_lt_of_cell? w3 _ hcell)).trans hcell
  replace hb3 := below_step' hb3 hb3.size hb4
  clear hb4
  revert hcell
  revert hb3
  clear w3
  revert w4
  intro w3 hb3 hcell
  try walk_nrm
  repeat (first
    | with_reducible refine gw_seq ?_
    | with_reducible refine gw_skip ?_
    | with_reducible refine gw_inBlock ?_
    | with_reducible refine gw_block ?_
    | with_reducible refine gw_loop ?_
    | with_reducible refine gw_inLoop ?_
    | with_reducible refine gw_region_end ?_
    | (refine gw_region _ rfl ?_; simp only [List.size_toArray, List.length_cons, List.length_nil, Nat.reduceAdd, Nat.zero_add, List.range, List.range.loop])
    | (refine gw_exit rfl ?_)
    | (refine gw_cond _ rfl ?_; simp only [if_true, if_false, Bool.false_eq_true, reduceIte, Bool.not_true, Bool.not_false, decide_true, decide_false, decide_eq_true_eq, not_true_eq_false, not_false_eq_true])
    | (refine gw_unwanted rfl (by rfl) ?_; try walk_nrm)
    | (refine gw_op rfl (by rfl) (by decide) rfl (fun K hK => ?_); go_simp; refine hK _ _ rfl ?_; clear hK K; try walk_nrm)
    )
  have hbt : (IntKind.i64.wrap (IntKind.i64.wrap 0) == 0 && (10 : Int) == (encB.size : Int)) = true := by rw [b_size]; decide
  simp only [hbt]
  refine gw_ret (gw_leave (v := .bool true) rfl rfl Try.func8 (fun u => by simp [results, Try.f8]) (fun u => by simp [results, Try.f8]) (.stop fun d => Reach.done ⟨rfl, below_at hb3 d⟩))
end Go.Proofs.Ytmdcpmfanpopgaa
