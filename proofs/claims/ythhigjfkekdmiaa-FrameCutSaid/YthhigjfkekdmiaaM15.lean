-- Written by a program of this session (wip/tools/mine.sh), out of the translation and hand-given contracts.
import Derived.Test.YthhigjfkekdmiaaM0
import Derived.Test.YthhigjfkekdmiaaM6
import Derived.Test.YthhigjfkekdmiaaM14
namespace Go.Proofs.Ythhigjfkekdmiaa.M
open Go.RowKit Go.Proofs.YthhigjfkekdmiaaW.PrintWords Go.Proofs.YthhigjfkekdmiaaW.PrintLast Go.Proofs.YthhigjfkekdmiaaW.PrintMore
attribute [local go_sem] max2_int min2_int max_two min_two max_three min_three max_four min_four   -- for this text's walks alone
set_option linter.unusedVariables false
set_option linter.unusedSimpArgs false

/-! ### boomerangref1_Put: function 27 -/
def boomerangref1_Put.l0 : Nat → Int → List Int → Option (ByteArray)
 | 0, _, _ => none
 | k + 1, x3, x4 => if x3 ≥ 128 then (if x4.length < 140737488355328 then (boomerangref1_Put.l0 k (x3 / 128) (x4 ++ [Go.bits .or .u8 ((x3) % 256) 128])) else (none)) else (if x4.length < 140737488355328 then (some (strOfNums (x4 ++ [(x3) % 256]))) else (none))
def boomerangref1_Put.f (k : Nat) (a0 : Int) : Option (ByteArray) := (boomerangref1_unsigned.f a0).bind fun t226 => (boomerangref1_Put.l0 k t226 ([] : List Int))
theorem boomerangref1_Put.mono_l : ∀ k, (∀ y0 y1, LeO (boomerangref1_Put.l0 k y0 y1) (boomerangref1_Put.l0 (k + 1) y0 y1))
 | 0 => fun _ _ r h => by simp [boomerangref1_Put.l0] at h
 | k + 1 => by
  have ih0 := boomerangref1_Put.mono_l k
  ·intro y0 y1
   unfold boomerangref1_Put.l0
   repeat' first
   | (with_reducible exact ih0 _ _)
   | (with_reducible exact LeO.refl _)
   | (with_reducible exact LeO.none _)
   | (with_reducible refine LeO.ite ?_ ?_)
   | (with_reducible refine LeO.bind ?_ (fun _ => ?_))
   | exact ih0 _ _
   | exact LeO.none _
   | refine LeO.ite ?_ ?_
   | refine LeO.bind ?_ (fun _ => ?_)
theorem boomerangref1_Put.mono : ∀ a0 k, LeO (boomerangref1_Put.f k a0) (boomerangref1_Put.f (k + 1) a0) := by
 intro a0 k
 have ih0 := boomerangref1_Put.mono_l k
 unfold boomerangref1_Put.f
 repeat' first
   | (with_reducible exact ih0 _ _)
   | (with_reducible exact LeO.refl _)
   | (with_reducible exact LeO.none _)
   | (with_reducible refine LeO.ite ?_ ?_)
   | (with_reducible refine LeO.bind ?_ (fun _ => ?_))
   | exact ih0 _ _
   | exact LeO.none _
   | refine LeO.ite ?_ ?_
   | refine LeO.bind ?_ (fun _ => ?_)
set_option maxHeartbeats 8000000 in
set_option maxRecDepth 100000 in
theorem boomerangref1_Put.calls (k : Nat) (a0 : Int) (r : ByteArray) (w : World) (h : boomerangref1_Put.f k a0 = some r) :
  Calls Try.prog 27 #[.int .i64 a0] w fun e w' => e = .returned (.string r) ∧ Below w.heap.size w w' := by
 have HB := Aside0.mk (Below.refl w.heap.size w)
 have H : ((boomerangref1_unsigned.f a0).bind fun t226 => (boomerangref1_Put.l0 k t226 ([] : List Int))) = some r := h
 clear h
 replace H := Option.bind_eq_some_iff.mp H
 obtain ⟨t226, A20, H⟩ := H
 replace H : (boomerangref1_Put.l0 k t226 ([] : List Int)) = some r := H
 have A2 := Aside0.mk A20
 clear A20
 have H' := Aside0.mk H
 clear H
 go_enter Try.func27, Try.ntmps27
 go_wp2_with (first | ((with_reducible refine gate_callee (f := 32) rfl ?_); refine goesL_ (some 6) rfl rfl Try.func32 (by kernel_rfl) rfl #[.int .i64 a0] rfl (by (try simp only [List.map_toArray, List.map_cons, List.map_nil]); first | done | rfl | (simp only [List.length_drop, List.length_take]; rfl)) ?_; (with_reducible refine (boomerangref1_unsigned.calls a0 t226 _ A2.out).mono ?_); rintro e w' ⟨rfl, ⟨nd, rfl⟩⟩; refine ⟨_, rfl, ?_⟩))
 go_loopg [3, 4] k (fun kq v3 v4 w' => ∃ (x3_1 : Int) (x4_1 : List Int), v3 = .int .u64 x3_1 ∧ Aside0 (boomerangref1_Put.l0 kq x3_1 x4_1 = some r) ∧ Aside0 (kq ≤ k) ∧ Aside0 (Kd.R (Kd.int .u8) 5 w' w.heap.size (fun _ => True) v4 x4_1) ∧ Aside0 (Below w.heap.size w w'))
 case atStart => exact ⟨(t226), (([] : List Int)), (by first | rfl | (simp; done) | (simp [*]; done)), H', ⟨Nat.le_refl _⟩, ⟨by first | exact Kd.R_nil _ _ _ _ _ | exact Kd.N_nil _ _ _ _ _ | exact Kd.V_nil _ _ _ _ _ | exact Kd.Q_nil _ _ _ _ _ | exact Kd.S_nil _ _ _ _ _⟩, ⟨by repeat (first | (with_reducible first | exact HB.out | apply below_alloc | apply pw_below_drewN | apply below_drew1) | exact HB.out)⟩⟩
 case round =>
  clear H'
  try clear c2
  try clear p2
  obtain ⟨x3_1, x4_1, rfl, HA, HK1, HO_4, HB⟩ := hrel
  cases gk with
  | zero => exact absurd HA.out (by simp [boomerangref1_Put.l0])
  | succ k1 =>
   have H := HA.out
   clear HA
   simp only [boomerangref1_Put.l0] at H
   by_cases c3 : x3_1 ≥ 128
   ·rw [if_pos c3] at H
    have c3b0 : decide (128 ≤ x3_1) = true := decide_eq_true c3
    clear c3
    by_cases c4 : x4_1.length < 140737488355328
    ·rw [if_pos c4] at H
     have LMc4 := Aside0.mk c4
     clear c4
     obtain ⟨y227, hy227⟩ : ∃ y_ : List Int, y_ = (x4_1 ++ [Go.bits .or .u8 ((x3_1) % 256) 128]) := ⟨_, rfl⟩
     replace H : (boomerangref1_Put.l0 k1 (x3_1 / 128) y227) = some r := by first | (rw [hy227]; with_reducible exact H) | (have H2_ := (Option.bind_some _ _).symm.trans H; rw [hy227]; with_reducible exact H2_) | (have H2_ := (Option.bind_some _ _).symm.trans H; with_reducible exact H2_) | with_reducible exact H | (rw [hy227]; exact H) | exact H
     have Ny227 := Aside0.mk hy227
     clear hy227
     have H' := Aside0.mk H
     clear H
     go_wp2_with (first | ((with_reducible refine gate_builtin (b := .append) (xs := #[.tmp 9, .tmp 13]) rfl ?_); at_builtin; refine Kd.R_append (Kd.int .u8) (w0 := w) w.heap.size rfl (.tmp 9) (.tmp 13) 22 5 (.int .u8 0) 1 rfl Try.underlying22 info5 rfl (by decide) (by omega) u4 x4_1 (Go.bits .or .u8 ((x3_1) % 256) 128) [.int .u8 (Go.bits .or .u8 ((x3_1) % 256) 128)] (fun _ => True) (fun _ => False) rfl rfl ?aP (fun _ hk => hk.elim) ?aF ?aO ?aB ?aS ?aL ?_; (case aP => exact rfl); (case aB => exact (by repeat (first | (with_reducible first | exact HB.out | apply below_alloc | apply pw_below_drewN | apply below_drew1) | exact HB.out))); (case aF => exact (fun _ _ => trivial)); (case aO => exact (by (with_reducible repeat (first | apply Kd.R_alloc | apply Kd.R_drewN | apply Kd.R_drew)); exact HO_4.out)); (case aS => exact (below_size (by repeat (first | (with_reducible first | exact HB.out | apply below_alloc | apply pw_below_drewN | apply below_drew1) | exact HB.out)))); (case aL => have := LMc4.out; omega); intro v228 w5 ho hb hg hat; rw [← Ny227.out] at ho; have n0_ := Aside0.mk (hb); have n1_ := Aside0.mk (ho); clear HB; clear HO_4; have HB := n0_; have HO229 := n1_; clear n0_ n1_; clear ho hb hg hat))
     go_roundg k1
     case measure => have := HK1.out; omega
     case rel => exact ⟨(x3_1 / 128), (y227), (by first | rfl | (simp; done) | (simp [*]; done)), H', ⟨by have := HK1.out; omega⟩, ⟨by (with_reducible repeat (first | apply Kd.R_alloc | apply Kd.R_drewN | apply Kd.R_drew)); exact HO229.out⟩, ⟨by repeat (first | (with_reducible first | exact HB.out | apply below_alloc | apply pw_below_drewN | apply below_drew1) | exact HB.out)⟩⟩
    ·rw [if_neg c4] at H
     exact absurd H (by simp)
   ·rw [if_neg c3] at H
    have c3b0 : decide (128 ≤ x3_1) = false := decide_eq_false c3
    clear c3
    by_cases c6 : x4_1.length < 140737488355328
    ·rw [if_pos c6] at H
     have LMc6 := Aside0.mk c6
     clear c6
     obtain ⟨y230, hy230⟩ : ∃ y_ : List Int, y_ = (x4_1 ++ [(x3_1) % 256]) := ⟨_, rfl⟩
     replace H : (some (strOfNums y230)) = some r := by first | (rw [hy230]; with_reducible exact H) | (have H2_ := (Option.bind_some _ _).symm.trans H; rw [hy230]; with_reducible exact H2_) | (have H2_ := (Option.bind_some _ _).symm.trans H; with_reducible exact H2_) | with_reducible exact H | (rw [hy230]; exact H) | exact H
     have Ny230 := Aside0.mk hy230
     clear hy230
     obtain rfl := Option.some.inj H
     go_wp2_with (first | ((with_reducible refine gate_builtin (b := .append) (xs := #[.tmp 17, .tmp 20]) rfl ?_); at_builtin; refine Kd.R_append (Kd.int .u8) (w0 := w) w.heap.size rfl (.tmp 17) (.tmp 20) 22 5 (.int .u8 0) 1 rfl Try.underlying22 info5 rfl (by decide) (by omega) u4 x4_1 ((x3_1) % 256) [.int .u8 ((x3_1) % 256)] (fun _ => True) (fun _ => False) rfl rfl ?aP (fun _ hk => hk.elim) ?aF ?aO ?aB ?aS ?aL ?_; (case aP => exact rfl); (case aB => exact (by repeat (first | (with_reducible first | exact HB.out | apply below_alloc | apply pw_below_drewN | apply below_drew1) | exact HB.out))); (case aF => exact (fun _ _ => trivial)); (case aO => exact (by (with_reducible repeat (first | apply Kd.R_alloc | apply Kd.R_drewN | apply Kd.R_drew)); exact HO_4.out)); (case aS => exact (below_size (by repeat (first | (with_reducible first | exact HB.out | apply below_alloc | apply pw_below_drewN | apply below_drew1) | exact HB.out)))); (case aL => have := LMc6.out; omega); intro v231 w7 ho hb hg hat; rw [← Ny230.out] at ho; have n0_ := Aside0.mk (hb); have n1_ := Aside0.mk (ho); clear HB; clear HO_4; have HB := n0_; have HO232 := n1_; clear n0_ n1_; clear ho hb hg hat; have hcv8 := own_string (P := Try.prog) Try.underlying22 Try.underlying5 Try.underlying9 (Kd.own_of_R HO232.out)))
     go_ret
     exact ⟨by first | rfl | (simp [errW_none, errW_some] <;> rfl) | (simp [*, errW_none, errW_some] <;> rfl), by repeat (first | (with_reducible first | exact HB.out | apply below_alloc | apply pw_below_drewN | apply below_drew1) | exact HB.out)⟩
    ·rw [if_neg c6] at H
     exact absurd H (by simp)

/-! ### boomerangref1_PutFrame: function 22 -/
def boomerangref1_PutFrame.f (k : Nat) (a0 : ByteArray) : Option (ByteArray × Int × Int) := if (a0.size : Int) > 4096 then (some ((⟨#[]⟩ : ByteArray), 0, 6)) else ((boomerangref1_Put.f k (a0.size : Int)).bind fun t234 => ((boomerangref1_PutSum.f k a0).bind fun t235 => (if t234.size + t235.size ≤ 9223372036854775807 then (some (t234 ++ t235, 0, 0)) else (none))))
theorem boomerangref1_PutFrame.mono : ∀ a0 k, LeO (boomerangref1_PutFrame.f k a0) (boomerangref1_PutFrame.f (k + 1) a0) := by
 intro a0 k
 unfold boomerangref1_PutFrame.f
 repeat' first
   | (with_reducible exact boomerangref1_Put.mono _ _)
   | (with_reducible exact boomerangref1_PutSum.mono _ _)
   | (with_reducible exact LeO.refl _)
   | (with_reducible exact LeO.none _)
   | (with_reducible refine LeO.ite ?_ ?_)
   | (with_reducible refine LeO.bind ?_ (fun _ => ?_))
   | exact boomerangref1_Put.mono _ _
   | exact boomerangref1_PutSum.mono _ _
   | exact LeO.none _
   | refine LeO.ite ?_ ?_
   | refine LeO.bind ?_ (fun _ => ?_)
set_option maxHeartbeats 8000000 in
set_option maxRecDepth 100000 in
theorem boomerangref1_PutFrame.calls (k : Nat) (a0 : ByteArray) (r1 : ByteArray) (r2 : Int) (r3 : Int) (w : World) (h : boomerangref1_PutFrame.f k a0 = some (r1, r2, r3)) :
  Calls Try.prog 22 #[.string a0] w fun e w' => e = .returned (.agg #[.string r1, .int .i64 r2, .int .i64 r3]) ∧ Below w.heap.size w w' := by
 have hu33 := Try.underlying33
 have HB := Aside0.mk (Below.refl w.heap.size w)
 have H : (if (a0.size : Int) > 4096 then (some ((⟨#[]⟩ : ByteArray), 0, 6)) else ((boomerangref1_Put.f k (a0.size : Int)).bind fun t234 => ((boomerangref1_PutSum.f k a0).bind fun t235 => (if t234.size + t235.size ≤ 9223372036854775807 then (some (t234 ++ t235, 0, 0)) else (none))))) = some (r1, r2, r3) := h
 clear h
 by_cases c2 : (a0.size : Int) > 4096
 ·rw [if_pos c2] at H
  have c2b0 : decide (4096 < (a0.size : Int)) = true := decide_eq_true c2
  have c2b1 : decide (4096 < a0.size) = true := decide_eq_true (by omega)
  clear c2
  simp only [Option.some.injEq, Prod.mk.injEq] at H
  obtain ⟨rfl, rfl, rfl⟩ := H
  go_enter Try.func22, Try.ntmps22
  go_wp2_with (first | ((with_reducible refine gate_dst (N := 2) rfl ?_); refine box_event ?hg (N := 2) ?hd (cs := #[.string (⟨#[]⟩ : ByteArray), .int .i64 0, .int .i64 0]) (t := 33) ?hr ?_; (case hd => rfl); (case hg => rfl); (case hr => first | (go_simp; done) | (go_simp; rfl)); intro gb233 hg w3 hbox hb; have n0_ := Aside0.mk (below_step (by repeat (first | (with_reducible first | exact HB.out | apply below_alloc | apply pw_below_drewN | apply below_drew1) | exact HB.out)) hb); have n1_ := Aside0.mk (hbox); have n2_ := Aside0.mk ((by rw [hg]; exact (below_size (by repeat (first | (with_reducible first | exact HB.out | apply below_alloc | apply pw_below_drewN | apply below_drew1) | exact HB.out))) : w.heap.size ≤ gb233)); have n3_ := Aside0.mk ((by rw [hg]; exact (below_size (by repeat (first | (with_reducible first | exact HB.out | apply below_alloc | apply pw_below_drewN | apply below_drew1) | exact HB.out))) : w.heap.size ≤ gb233)); clear HB; have HB := n0_; have BK233 := n1_; have GW233 := n2_; have GE233 := n3_; clear n0_ n1_ n2_ n3_; clear hb hbox hg; have hcz4_0 : w3.cell? ⟨gb233, 0, none⟩ = some (.string (⟨#[]⟩ : ByteArray)) := (blk_cell BK233.out 0).trans rfl; have hcz4_1 : w3.cell? ⟨gb233, 1, none⟩ = some (.int .i64 0) := (blk_cell BK233.out 1).trans rfl; have hcz4_2 : w3.cell? ⟨gb233, 2, none⟩ = some (.int .i64 0) := (blk_cell BK233.out 2).trans rfl; have hfz4_0 := blk_frozen BK233.out 0; have hfz4_1 := blk_frozen BK233.out 1; have hfz4_2 := blk_frozen BK233.out 2))
  refine bodyPost_ret (results_cell_row rfl _ _ gb233 33 #[.string (⟨#[]⟩ : ByteArray), .int .i64 0, .int .i64 6] (0, 0) _ rfl (by (with_reducible repeat (first | refine blk_drewN ?_ _ | refine blk_drew ?_ | refine blk_alloc ?_ _)); refine blk_put (cs := #[.string (⟨#[]⟩ : ByteArray), .int .i64 0, .int .i64 0]) ?_ 2 _ rfl; (with_reducible repeat (first | refine blk_drewN ?_ _ | refine blk_drew ?_ | refine blk_alloc ?_ _)); refine blk_put (cs := #[.string (⟨#[]⟩ : ByteArray), .int .i64 0, .int .i64 0]) ?_ 1 _ rfl; (with_reducible repeat (first | refine blk_drewN ?_ _ | refine blk_drew ?_ | refine blk_alloc ?_ _)); refine blk_put (cs := #[.string (⟨#[]⟩ : ByteArray), .int .i64 0, .int .i64 0]) ?_ 0 _ rfl; (with_reducible repeat (first | refine blk_drewN ?_ _ | refine blk_drew ?_ | refine blk_alloc ?_ _)); exact BK233.out) Try.underlying33 rfl (by kernel_rfl)) rfl ?_
  exact ⟨by first | rfl | (simp [errW_none, errW_some] <;> rfl) | (simp [*, errW_none, errW_some] <;> rfl), by repeat (first | (with_reducible first | exact HB.out | apply below_alloc | apply pw_below_drewN | apply below_drew1 | refine below_set ?_ GE233.out) | exact HB.out)⟩
 ·rw [if_neg c2] at H
  have c2b0 : decide (4096 < (a0.size : Int)) = false := decide_eq_false c2
  have c2b1 : decide (4096 < a0.size) = false := decide_eq_false (by omega)
  clear c2
  replace H := Option.bind_eq_some_iff.mp H
  obtain ⟨t234, A50, H⟩ := H
  replace H : ((boomerangref1_PutSum.f k a0).bind fun t235 => (if t234.size + t235.size ≤ 9223372036854775807 then (some (t234 ++ t235, 0, 0)) else (none))) = some (r1, r2, r3) := H
  have A5 := Aside0.mk A50
  clear A50
  replace H := Option.bind_eq_some_iff.mp H
  obtain ⟨t235, A60, H⟩ := H
  replace H : (if t234.size + t235.size ≤ 9223372036854775807 then (some (t234 ++ t235, 0, 0)) else (none)) = some (r1, r2, r3) := H
  have A6 := Aside0.mk A60
  clear A60
  by_cases c7 : t234.size + t235.size ≤ 9223372036854775807
  ·rw [if_pos c7] at H
   have c7b0 := eq_true c7
   have c7b1 : decide (t234.size + t235.size ≤ 9223372036854775807) = true := decide_eq_true c7
   try have c7b2 : (9223372036854775807 < t234.size + t235.size) = False := eq_false (Nat.not_lt.2 c7)
   simp only [Option.some.injEq, Prod.mk.injEq] at H
   obtain ⟨rfl, rfl, rfl⟩ := H
   go_enter Try.func22, Try.ntmps22
   go_wp2_with (first | ((with_reducible refine gate_dst (N := 2) rfl ?_); refine box_event ?hg (N := 2) ?hd (cs := #[.string (⟨#[]⟩ : ByteArray), .int .i64 0, .int .i64 0]) (t := 33) ?hr ?_; (case hd => rfl); (case hg => rfl); (case hr => first | (go_simp; done) | (go_simp; rfl)); intro gb233 hg w8 hbox hb; have n0_ := Aside0.mk (below_step (by repeat (first | (with_reducible first | exact HB.out | apply below_alloc | apply pw_below_drewN | apply below_drew1) | exact HB.out)) hb); have n1_ := Aside0.mk (hbox); have n2_ := Aside0.mk ((by rw [hg]; exact (below_size (by repeat (first | (with_reducible first | exact HB.out | apply below_alloc | apply pw_below_drewN | apply below_drew1) | exact HB.out))) : w.heap.size ≤ gb233)); have n3_ := Aside0.mk ((by rw [hg]; exact (below_size (by repeat (first | (with_reducible first | exact HB.out | apply below_alloc | apply pw_below_drewN | apply below_drew1) | exact HB.out))) : w.heap.size ≤ gb233)); clear HB; have HB := n0_; have BK233 := n1_; have GW233 := n2_; have GE233 := n3_; clear n0_ n1_ n2_ n3_; clear hb hbox hg) | ((with_reducible refine gate_callee (f := 27) rfl ?_); refine goesL_ (some 9) rfl rfl Try.func27 (by kernel_rfl) rfl #[.int .i64 (a0.size : Int)] rfl (by (try simp only [List.map_toArray, List.map_cons, List.map_nil]); first | done | rfl | (simp only [List.length_drop, List.length_take]; rfl)) ?_; (with_reducible refine (boomerangref1_Put.calls k (a0.size : Int) t234 _ A5.out).mono ?_); rintro e w9 ⟨rfl, hb⟩; refine ⟨_, rfl, ?_⟩; have n0_ := Aside0.mk (blk_below (g := gb233) (o := .cells #[.string (⟨#[]⟩ : ByteArray), .int .i64 0, .int .i64 0] 33 (0, 0)) (by (with_reducible repeat (first | refine blk_drewN ?_ _ | refine blk_drew ?_ | refine blk_alloc ?_ _)); exact BK233.out) hb); have n1_ := Aside0.mk (below_step (by repeat (first | (with_reducible first | exact HB.out | apply below_alloc | apply pw_below_drewN | apply below_drew1 | refine below_set ?_ GE233.out) | exact HB.out)) hb); clear BK233; clear HB; have BK233 := n0_; have HB := n1_; clear n0_ n1_; (try clear hb); (try clear hb2); (try clear hk); (try clear hi)) | ((with_reducible refine gate_callee (f := 18) rfl ?_); refine goesL_ (some 11) rfl rfl Try.func18 (by kernel_rfl) rfl #[.string a0] rfl (by (try simp only [List.map_toArray, List.map_cons, List.map_nil]); first | done | rfl | (simp only [List.length_drop, List.length_take]; rfl)) ?_; (with_reducible refine (boomerangref1_PutSum.calls k a0 t235 _ A6.out).mono ?_); rintro e w10 ⟨rfl, hb⟩; refine ⟨_, rfl, ?_⟩; have n0_ := Aside0.mk (blk_below (g := gb233) (o := .cells #[.string (⟨#[]⟩ : ByteArray), .int .i64 0, .int .i64 0] 33 (0, 0)) (by (with_reducible repeat (first | refine blk_drewN ?_ _ | refine blk_drew ?_ | refine blk_alloc ?_ _)); exact BK233.out) hb); have n1_ := Aside0.mk (below_step (by repeat (first | (with_reducible first | exact HB.out | apply below_alloc | apply pw_below_drewN | apply below_drew1 | refine below_set ?_ GE233.out) | exact HB.out)) hb); clear BK233; clear HB; have BK233 := n0_; have HB := n1_; clear n0_ n1_; (try clear hb); (try clear hb2); (try clear hk); (try clear hi); have hcz11_0 : w10.cell? ⟨gb233, 0, none⟩ = some (.string (⟨#[]⟩ : ByteArray)) := (blk_cell BK233.out 0).trans rfl; have hcz11_1 : w10.cell? ⟨gb233, 1, none⟩ = some (.int .i64 0) := (blk_cell BK233.out 1).trans rfl; have hcz11_2 : w10.cell? ⟨gb233, 2, none⟩ = some (.int .i64 0) := (blk_cell BK233.out 2).trans rfl; have hfz11_0 := blk_frozen BK233.out 0; have hfz11_1 := blk_frozen BK233.out 1; have hfz11_2 := blk_frozen BK233.out 2))
   refine bodyPost_ret (results_cell_row rfl _ _ gb233 33 #[.string (t234 ++ t235), .int .i64 0, .int .i64 0] (0, 0) _ rfl (by (with_reducible repeat (first | refine blk_drewN ?_ _ | refine blk_drew ?_ | refine blk_alloc ?_ _)); refine blk_put (cs := #[.string (t234 ++ t235), .int .i64 0, .int .i64 0]) ?_ 2 _ rfl; (with_reducible repeat (first | refine blk_drewN ?_ _ | refine blk_drew ?_ | refine blk_alloc ?_ _)); refine blk_put (cs := #[.string (t234 ++ t235), .int .i64 0, .int .i64 0]) ?_ 1 _ rfl; (with_reducible repeat (first | refine blk_drewN ?_ _ | refine blk_drew ?_ | refine blk_alloc ?_ _)); refine blk_put (cs := #[.string (⟨#[]⟩ : ByteArray), .int .i64 0, .int .i64 0]) ?_ 0 _ rfl; (with_reducible repeat (first | refine blk_drewN ?_ _ | refine blk_drew ?_ | refine blk_alloc ?_ _)); exact BK233.out) Try.underlying33 rfl (by kernel_rfl)) rfl ?_
   exact ⟨by first | rfl | (simp [errW_none, errW_some] <;> rfl) | (simp [*, errW_none, errW_some] <;> rfl), by repeat (first | (with_reducible first | exact HB.out | apply below_alloc | apply pw_below_drewN | apply below_drew1 | refine below_set ?_ GE233.out) | exact HB.out)⟩
  ·rw [if_neg c7] at H
   exact absurd H (by simp)

end Go.Proofs.Ythhigjfkekdmiaa.M
