/- The row of TraceRecords: for any numbers and any slices of bytes the law returns true, its arguments read as they did, and at its return all other goroutines only leave. -/
import Derived.Test.YtmdcpmfanpopgaaRows
import Derived.Test.YtmdcpmfanpopgaaComE
import Derived.Conc.LeavingOf
import Derived.Conc.Beside
import Derived.WalkKit
import Derived.ProofKit
import Derived.OpenShut
import Derived.SliceStrings
import Derived.ChangeOld
import Derived.Below
import Derived.SizedLaws
namespace Go.Proofs.Ytmdcpmfanpopgaa.traceRecords
open Go.ChangeShapes Go.WideShapes Go.ChangeAt Go.RowKit Go.Conc Go.Proofs.Ytmdcpmfanpopgaa Go.Proofs.Ytmdcpmfanpopgaa.M
open Go.Proofs.YtmdcpmfanpopgaaW.PrintWords
set_option linter.unusedVariables false
theorem own : ownKnob Try.prog.godebug = none := by kernel_rfl
theorem laidOut : laidOutB Try.prog = true := by kernel_rfl
theorem evL_of_dq {Still : Loc → Prop} {B : Nat} : ∀ w w' es, DQ Still B w w' es → ∀ e ∈ es, EvL (fun _ => False) B e := fun _ _ _ h e he => ⟨fun _ _ z => z.elim, (h.2 e he).2.1, (h.2 e he).2.2.1, (h.2 e he).2.2.2⟩

/-- What the call leaves behind. -/
def Post (W : World) (v : Value) (w : World) : Prop := v = .bool true ∧ Below W.heap.size W w

theorem the_end {W w : World} {g : Goroutine} (h : QT W g w) (B : Nat) : Goes Try.prog true AtRel (DQ NoStill B) (AtEnd Try.prog (fun _ => False) B (Post W)) 0 g w := by
  obtain ⟨T, todo, rfl, h8, hb⟩ := h
  rintro w₁ ⟨d, rfl⟩
  have e8 : T[8]?.getD undef = .bool true := by rw [← h8, Array.getD_eq_getD_getElem?]
  refine ⟨rfl, .bool true, #[], ?_, by simp, rfl, below_at hb d⟩
  simp [G, stepG, unwind, doReturn, results, Frame.at, base, Try.func6, Try.f6, seen, GStep.after, e8]

/-- ████ THE RUN, ON WHATEVER TAPE ████ -/
theorem the_run (at_ bt : Int) (A0 B0 : Option Addr) (ca cb : Nat) (la lb : List Int) (W : World) (ha : Kd.C (Kd.int .u8) W A0 la.length la) (hca : la.length ≤ ca) (hb : Kd.C (Kd.int .u8) W B0 lb.length lb) (hcb : lb.length ≤ cb)
    (hla : ∀ b ∈ la, 0 ≤ b ∧ b < 256) (hlb : ∀ b ∈ lb, 0 ≤ b ∧ b < 256) (hat0 : 0 ≤ at_) (hat1 : at_ < 65536) (hbt0 : 0 ≤ bt) (hbt1 : bt < 65536) :
    ∃ M last o w' t', runNT Try.prog (M + 1) (solo (G (Frame.enter Try.prog 6 #[.int .u16 at_, .int .u16 bt, .slice A0 la.length ca, .slice B0 lb.length cb] .normal) []) W) #[] = (.ended o w', t') ∧
      runN Try.prog M (solo (G (Frame.enter Try.prog 6 #[.int .u16 at_, .int .u16 bt, .slice A0 la.length ca, .slice B0 lb.length cb] .normal) []) W) = .next last ∧ step Try.prog last = .ended o w' ∧ Go.Conc.Good Try.prog (Post W) last o w' t' := by
  obtain ⟨xs, hxs, hxok⟩ := B.host_ok la hla
  obtain ⟨ys, hys, hyok⟩ := B.host_ok lb hlb
  have hw : ∀ n : Int, 0 ≤ n → n < 65536 → IntKind.i64.wrap n = n := fun n h0 h1 => by rw [IntKind.wrap_i64]; omega
  have hR := rec_walk at_ bt A0 B0 ca cb la lb xs ys W ha hca hb hcb hxs hys (hw _ hat0 hat1) (hw _ hbt0 hbt1) hat0 hat1 hbt0 hbt1 hxok hyok
  rw [solo_eq_crowd]
  obtain ⟨N, gs', sl', T', q', B', g', w', hrun, hg, hQ, R'⟩ := hR 0 #[G (Frame.enter Try.prog 6 #[.int .u16 at_, .int .u16 bt, .slice A0 la.length ca, .slice B0 lb.length cb] .normal) []] none #[] (fun _ => 0) rfl (ring_begin (fun _ z => z.elim) (leavers_one _ _) past_nil trivial)
  obtain ⟨L, Pp⟩ := ring_end R' rfl (fun _ _ => rfl)
  obtain ⟨M8, last, o, w2, t', e1, e2, e3, e4⟩ := beside_ends (P := Try.prog) (Post := Post W) (sl := sl') evL_of_dq hg L Pp (the_end hQ B')
  refine ⟨N + M8, last, o, w2, t', ?_, ?_, e3, e4⟩
  · rw [Nat.add_assoc, runNT_add, hrun]; exact e1
  · rw [runN_add, ← runNT_fst Try.prog _ _ #[], hrun]; exact e2

/-- A slice of bytes, as the walk reads it. -/
theorem bytes {H : Type} {enc : TypeId × Value → H} {W : World} {d : DataW H} {p : List MemPlace} {fuel : Nat} {a : Option Addr} {len cap : Nat}
    (hf : DataW.trod enc Try.prog W 0 (fun _ => true) true fuel 50 (Value.slice a len cap).cells.toList = some (d, p)) : ∃ l : List Int, l.length = len ∧ len ≤ cap ∧ Kd.C (Kd.int .u8) W a l.length l ∧ ∀ b ∈ l, 0 ≤ b ∧ b < 256 := by
  rcases open_ints Try.underlying50 Try.underlying5 (by kernel_rfl) hf with ⟨hcs, _⟩ | ⟨x, l, c, zs, hcs, _, hl, hm, hz, _, hcell, hwz⟩
  · simp [Value.cells] at hcs
    obtain ⟨rfl, rfl, rfl⟩ := hcs
    exact ⟨[], rfl, Nat.le_refl _, Kd.C_nil (Kd.int .u8) W, by simp⟩
  · simp [Value.cells] at hcs
    obtain ⟨rfl, rfl, rfl⟩ := hcs
    have hz' : zs.length = cap := by simpa using hz
    have hlen : (zs.take len).length = len := by rw [List.length_take]; omega
    have hm' : cap ≤ 9223372036854775807 := hm
    refine ⟨zs.take len, hlen, hl, Kd.C_of_reads (d := (0 : Int)) (h1 := fun _ => rfl) ⟨rfl, by omega, fun _ => ⟨x, rfl, fun j hj => ?_⟩⟩, fun b hb => ?_⟩
    · rw [hlen] at hj
      rw [hcell j (by omega)]
      simp [List.getD_eq_getElem?_getD, hj]
    · obtain ⟨j, hj, rfl⟩ := List.mem_iff_getElem.1 hb
      have hr := range_u8 hwz j
      rw [hlen] at hj
      rw [List.getElem_take]
      rw [List.getElem?_eq_getElem (by omega), Option.getD_some] at hr
      exact ⟨hr.1, by have := hr.2; omega⟩
set_option maxRecDepth 100000 in
theorem lifted (os : Os) (started : os.Started) (H : Type) (enc : TypeId × Value → H) :
    ReturnsInLeavingWide {} Try.checked os 6 .any (Rows.traceRecordsSpec.pre6 enc Try.prog Try.f6 Rows.traceRecordsRow.domain false) (Rows.traceRecordsSpec.post enc Try.prog Try.f6 false true false false) := by
  refine returnsInLeavingWide_of_change_sized (C := Try.checked) own started Try.func6
    (ChangeSpec.witness6 (enc := enc) (C := Try.checked) false ⟨#[], #[.int .u16 0, .int .u16 0, .slice none 0 0, .slice none 0 0], []⟩ 8 (by kernel_rfl) (by kernel_rfl) (by kernel_rfl) (by kernel_rfl)) ?_
  intro W base args ds gs before hval0 hW _ _ _
  have hval : ∀ (j : Nat) t v, Try.f6.params[j]? = some t → args[j]? = some v → Value.okWide Try.prog W .any base t v := hval0
  have hW' := hW
  obtain ⟨p, q, hA0, hV, rfl, hfz, hnd⟩ := hW
  have hA : DataW.TrodAll enc Try.prog W 0 (fun _ => true) true Try.f6.params.toList args.toList ds p := hA0
  rw [Try.params6] at hA hval
  obtain ⟨v0, vs0, d0, ds0, p0, q0, hargs, rfl, rfl, h0, r0⟩ := trodAll_cons hA
  obtain ⟨v1, vs1, d1, ds1, p1, q1, rfl, rfl, rfl, h1, r1⟩ := trodAll_cons r0
  obtain ⟨v2, vs2, d2, ds2, p2, q2, rfl, rfl, rfl, h2, r2⟩ := trodAll_cons r1
  obtain ⟨v3, vs3, d3, ds3, p3, q3, rfl, rfl, rfl, h3, r3⟩ := trodAll_cons r2
  obtain ⟨rfl, rfl, rfl⟩ := trodAll_nil r3
  obtain rfl : args = #[v0, v1, v2, v3] := by cases args; simp_all
  obtain ⟨rfl, rfl⟩ := trodVars_none hV
  obtain ⟨a0, rfl, rfl, rfl, w0⟩ := open_int Try.underlying51 (hval 0 51 v0 rfl rfl) h0
  obtain ⟨a1, rfl, rfl, rfl, w1⟩ := open_int Try.underlying51 (hval 1 51 v1 rfl rfl) h1
  obtain ⟨A2, len2, cap2, rfl⟩ := okWide_slice Try.underlying50 (hval 2 50 v2 rfl rfl)
  obtain ⟨A3, len3, cap3, rfl⟩ := okWide_slice Try.underlying50 (hval 3 50 v3 rfl rfl)
  have k2 := h2
  have k3 := h3
  have lt2 : ∀ x ∈ p2, x.block < W.heap.size := by obtain ⟨m, hm⟩ := k2; exact DataW.trod_lt m _ _ _ hm
  have lt3 : ∀ x ∈ p3, x.block < W.heap.size := by obtain ⟨m, hm⟩ := k3; exact DataW.trod_lt m _ _ _ hm
  obtain ⟨l2, e2, c2, C2, b2⟩ : ∃ l : List Int, l.length = len2 ∧ len2 ≤ cap2 ∧ Kd.C (Kd.int .u8) W A2 l.length l ∧ ∀ b ∈ l, 0 ≤ b ∧ b < 256 := by obtain ⟨fuel, hf⟩ := h2; exact bytes hf
  obtain ⟨l3, e3, c3, C3, b3⟩ : ∃ l : List Int, l.length = len3 ∧ len3 ≤ cap3 ∧ Kd.C (Kd.int .u8) W A3 l.length l ∧ ∀ b ∈ l, 0 ≤ b ∧ b < 256 := by obtain ⟨fuel, hf⟩ := h3; exact bytes hf
  subst e2 e3
  have r0' : 0 ≤ a0 ∧ a0 < 65536 := by have := w0; simp [Lit.wf, IntKind.min, IntKind.max, IntKind.signed, IntKind.bits] at this; omega
  have r1' : 0 ≤ a1 ∧ a1 < 65536 := by have := w1; simp [Lit.wf, IntKind.min, IntKind.max, IntKind.signed, IntKind.bits] at this; omega
  clear hA0 hval0
  obtain ⟨M, last, o, w', t', q1, q2, q3, q4⟩ := the_run a0 a1 A2 A3 cap2 cap3 l2 l3 W C2 c2 C3 c3 b2 b3 r0'.1 r0'.2 r1'.1 r1'.2
  refine ⟨M, last, o, w', t', q1, q2, q3, q4.mono fun v hF => ?_⟩
  obtain ⟨rfl, bel⟩ : Post W v w' := hF
  exact ⟨_, _, _, [], _, [], hW', trodAll_mk1 (shut_bool Try.underlying4 _), (trodAll_cons_mk (shut_int Try.underlying51 w0) (trodAll_cons_mk (shut_int Try.underlying51 w1) (trodAll_cons_mk (Below.trod laidOut (by kernel_rfl) (of_decide_eq_true (by kernel_rfl)) k2 bel lt2) (trodAll_cons_mk (Below.trod laidOut (by kernel_rfl) (of_decide_eq_true (by kernel_rfl)) k3 bel lt3) trodAll_mk0)))), rfl, bel.frame _, fun h => by cases h⟩
theorem over : Rows.TraceRecordsSaid :=
  OpenClaim.holds_of_wide_leaving 6 Try.f6 rfl rfl rfl rfl rfl rfl rfl ⟨rfl, rfl, rfl, rfl, rfl⟩ rfl rfl rfl rfl rfl (by kernel_rfl) Try.func6 (by kernel_rfl)
    (of_decide_eq_true (by kernel_rfl)) (by unfold Func.isWrapper; first | (rw [if_pos (by decide +kernel)]; kernel_rfl) | (rw [if_neg (by decide +kernel)]; exact ⟨rfl, rfl⟩))
    (fun os started H enc _ => lifted os started H enc)
end Go.Proofs.Ytmdcpmfanpopgaa.traceRecords
namespace Go.Proofs.Ytmdcpmfanpopgaa
/-- The row, under a short name, for the claim. -/
theorem traceRecords_holds : Rows.TraceRecordsSaid := traceRecords.over
end Go.Proofs.Ytmdcpmfanpopgaa
