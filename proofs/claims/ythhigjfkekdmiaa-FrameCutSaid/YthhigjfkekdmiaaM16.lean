-- Written by a program of this session (wip/tools/mine.sh), out of the translation and hand-given contracts.
import Derived.Test.YthhigjfkekdmiaaM0
import Derived.Test.YthhigjfkekdmiaaM15
namespace Go.Proofs.Ythhigjfkekdmiaa.M
open Go.RowKit Go.Proofs.YthhigjfkekdmiaaW.PrintWords Go.Proofs.YthhigjfkekdmiaaW.PrintLast Go.Proofs.YthhigjfkekdmiaaW.PrintMore
attribute [local go_sem] max2_int min2_int max_two min_two max_three min_three max_four min_four   -- for this text's walks alone
set_option linter.unusedVariables false
set_option linter.unusedSimpArgs false

/-! ### boomerangref1_Get: function 31 -/
mutual
def boomerangref1_Get.j0 : Nat → ByteArray → Int → Bool → Option (Int × Int × Int)
 | 0, _, _, _ => none
 | k + 1, x0, x1, x16 => if x16 = true then (some (0, 0, 1)) else (boomerangref1_Get.l0 k x0 x1 0 0)
def boomerangref1_Get.l0 : Nat → ByteArray → Int → Int → Int → Option (Int × Int × Int)
 | 0, _, _, _, _ => none
 | k + 1, x0, x1, x5, x6 => if x6 < 10 then (if (wrap64 (x1 + x6)) ≥ (x0.size : Int) then (some (0, 0, 3)) else (if 0 ≤ (wrap64 (x1 + x6)) then (if (wrap64 (x1 + x6)) < (x0.size : Int) then (if 0 ≤ (wrap64 (7 * x6)) then (if (bt x0 (wrap64 (x1 + x6))) < 128 then (if (Go.bits .and .u64 (Go.bits .or .u64 x5 (shl .u64 (IntKind.u64.wrap (Go.bits .and .u8 (bt x0 (wrap64 (x1 + x6))) 127)) (wrap64 (7 * x6)))) 1) = 1 then ((boomerangref1_Put.f k (wrap64 ((wrap64 (-(wrap64 ((Go.bits .or .u64 x5 (shl .u64 (IntKind.u64.wrap (Go.bits .and .u8 (bt x0 (wrap64 (x1 + x6))) 127)) (wrap64 (7 * x6)))) / 2)))) - 1))).bind fun t237 => (if 0 ≤ x1 then (if x1 ≤ (wrap64 ((wrap64 (x1 + x6)) + 1)) then (if (wrap64 ((wrap64 (x1 + x6)) + 1)) ≤ (x0.size : Int) then (if t237.toList = (x0.extract (x1 : Int).toNat ((wrap64 ((wrap64 (x1 + x6)) + 1)) : Int).toNat).toList then (some (wrap64 ((wrap64 (-(wrap64 ((Go.bits .or .u64 x5 (shl .u64 (IntKind.u64.wrap (Go.bits .and .u8 (bt x0 (wrap64 (x1 + x6))) 127)) (wrap64 (7 * x6)))) / 2)))) - 1), wrap64 ((wrap64 (x1 + x6)) + 1), 0)) else (some (0, 0, 4))) else (none)) else (none)) else (none))) else ((boomerangref1_Put.f k (wrap64 ((Go.bits .or .u64 x5 (shl .u64 (IntKind.u64.wrap (Go.bits .and .u8 (bt x0 (wrap64 (x1 + x6))) 127)) (wrap64 (7 * x6)))) / 2))).bind fun t238 => (if 0 ≤ x1 then (if x1 ≤ (wrap64 ((wrap64 (x1 + x6)) + 1)) then (if (wrap64 ((wrap64 (x1 + x6)) + 1)) ≤ (x0.size : Int) then (if t238.toList = (x0.extract (x1 : Int).toNat ((wrap64 ((wrap64 (x1 + x6)) + 1)) : Int).toNat).toList then (some (wrap64 ((Go.bits .or .u64 x5 (shl .u64 (IntKind.u64.wrap (Go.bits .and .u8 (bt x0 (wrap64 (x1 + x6))) 127)) (wrap64 (7 * x6)))) / 2), wrap64 ((wrap64 (x1 + x6)) + 1), 0)) else (some (0, 0, 4))) else (none)) else (none)) else (none)))) else (boomerangref1_Get.l0 k x0 x1 (Go.bits .or .u64 x5 (shl .u64 (IntKind.u64.wrap (Go.bits .and .u8 (bt x0 (wrap64 (x1 + x6))) 127)) (wrap64 (7 * x6)))) (wrap64 (x6 + 1)))) else (none)) else (none)) else (none))) else (some (0, 0, 4))
end
def boomerangref1_Get.f (k : Nat) (a0 : ByteArray) (a1 : Int) : Option (Int × Int × Int) := if a1 < 0 then (boomerangref1_Get.j0 k a0 a1 true) else (boomerangref1_Get.j0 k a0 a1 (decide (a1 > (a0.size : Int))))
theorem boomerangref1_Get.mono_l : ∀ k, (∀ y0 y1 y2, LeO (boomerangref1_Get.j0 k y0 y1 y2) (boomerangref1_Get.j0 (k + 1) y0 y1 y2)) ∧ (∀ y0 y1 y2 y3, LeO (boomerangref1_Get.l0 k y0 y1 y2 y3) (boomerangref1_Get.l0 (k + 1) y0 y1 y2 y3))
 | 0 => ⟨fun _ _ _ r h => by simp [boomerangref1_Get.j0] at h, fun _ _ _ _ r h => by simp [boomerangref1_Get.l0] at h⟩
 | k + 1 => by
  obtain ⟨ih0, ih1⟩ := boomerangref1_Get.mono_l k
  refine ⟨?_, ?_⟩
  ·intro y0 y1 y2
   unfold boomerangref1_Get.j0
   repeat' first
   | (with_reducible exact ih0 _ _ _)
   | (with_reducible exact ih1 _ _ _ _)
   | (with_reducible exact boomerangref1_Put.mono _ _)
   | (with_reducible exact LeO.refl _)
   | (with_reducible exact LeO.none _)
   | (with_reducible refine LeO.ite ?_ ?_)
   | (with_reducible refine LeO.bind ?_ (fun _ => ?_))
   | exact ih0 _ _ _
   | exact ih1 _ _ _ _
   | exact boomerangref1_Put.mono _ _
   | exact LeO.none _
   | refine LeO.ite ?_ ?_
   | refine LeO.bind ?_ (fun _ => ?_)
  ·intro y0 y1 y2 y3
   unfold boomerangref1_Get.l0
   repeat' first
   | (with_reducible exact ih0 _ _ _)
   | (with_reducible exact ih1 _ _ _ _)
   | (with_reducible exact boomerangref1_Put.mono _ _)
   | (with_reducible exact LeO.refl _)
   | (with_reducible exact LeO.none _)
   | (with_reducible refine LeO.ite ?_ ?_)
   | (with_reducible refine LeO.bind ?_ (fun _ => ?_))
   | exact ih0 _ _ _
   | exact ih1 _ _ _ _
   | exact boomerangref1_Put.mono _ _
   | exact LeO.none _
   | refine LeO.ite ?_ ?_
   | refine LeO.bind ?_ (fun _ => ?_)
theorem boomerangref1_Get.mono : ∀ a0 a1 k, LeO (boomerangref1_Get.f k a0 a1) (boomerangref1_Get.f (k + 1) a0 a1) := by
 intro a0 a1 k
 obtain ⟨ih0, ih1⟩ := boomerangref1_Get.mono_l k
 unfold boomerangref1_Get.f
 repeat' first
   | (with_reducible exact ih0 _ _ _)
   | (with_reducible exact ih1 _ _ _ _)
   | (with_reducible exact boomerangref1_Put.mono _ _)
   | (with_reducible exact LeO.refl _)
   | (with_reducible exact LeO.none _)
   | (with_reducible refine LeO.ite ?_ ?_)
   | (with_reducible refine LeO.bind ?_ (fun _ => ?_))
   | exact ih0 _ _ _
   | exact ih1 _ _ _ _
   | exact boomerangref1_Put.mono _ _
   | exact LeO.none _
   | refine LeO.ite ?_ ?_
   | refine LeO.bind ?_ (fun _ => ?_)
def boomerangref1_Get.T15 : Bool × List (List Nat × List Nat) := (true, [([], []), ([0], [0]), ([], []), ([], []), ([], []), ([], []), ([4, 5], [4, 5]), ([6], [6]), ([2, 3, 7], [2, 3, 7]), ([1, 8], [1, 8])])
def boomerangref1_Get.B15 : List Nat := [0, 1, 0, 0, 0, 0, 48, 112, 252, 511]
theorem boomerangref1_Get.tab15 : rtab .any (opsOf Try.f31 15) = boomerangref1_Get.T15 := by kernel_rfl
theorem boomerangref1_Get.bits15 : waitsOk boomerangref1_Get.T15.2 boomerangref1_Get.B15 = true := by kernel_rfl
set_option maxHeartbeats 8000000 in
set_option maxRecDepth 100000 in
theorem boomerangref1_Get.calls (k : Nat) (a0 : ByteArray) (a1 : Int) (r1 : Int) (r2 : Int) (r3 : Int) (w : World) (h : boomerangref1_Get.f k a0 a1 = some (r1, r2, r3)) :
  Calls Try.prog 31 #[.string a0, .int .i64 a1] w fun e w' => e = .returned (.agg #[.int .i64 r1, .int .i64 r2, .int .i64 r3]) ∧ Below w.heap.size w w' := by
 have hu60 := Try.underlying60
 have HB := Aside0.mk (Below.refl w.heap.size w)
 have H : (if a1 < 0 then (boomerangref1_Get.j0 k a0 a1 true) else (boomerangref1_Get.j0 k a0 a1 (decide (a1 > (a0.size : Int))))) = some (r1, r2, r3) := h
 clear h
 have HC3 := Aside0.mk H
 clear H
 go_enter Try.func31, Try.ntmps31
 go_upto_region 1 with (first | ((with_reducible refine gate_dst (N := 4) rfl ?_); (try (refine gate_guard (by rfl) ?_; dsimp only)); refine box_event ?hg (N := 4) ?hd (cs := #[.int .i64 0, .int .i64 0, .int .i64 0]) (t := 60) ?hr ?_; (case hd => rfl); (case hg => rfl); (case hr => first | (go_simp; done) | (go_simp; rfl)); intro gb236 hg w4 hbox hb; have n0_ := Aside0.mk (below_step (by repeat (first | (with_reducible first | exact HB.out | apply below_alloc | apply pw_below_drewN | apply below_drew1) | exact HB.out)) hb); have n1_ := Aside0.mk (hbox); have n2_ := Aside0.mk ((by rw [hg]; exact (below_size (by repeat (first | (with_reducible first | exact HB.out | apply below_alloc | apply pw_below_drewN | apply below_drew1) | exact HB.out))) : w.heap.size ≤ gb236)); have n3_ := Aside0.mk ((by rw [hg]; exact (below_size (by repeat (first | (with_reducible first | exact HB.out | apply below_alloc | apply pw_below_drewN | apply below_drew1) | exact HB.out))) : w.heap.size ≤ gb236)); clear HB; have HB := n0_; have BK236 := n1_; have GW236 := n2_; have GE236 := n3_; clear n0_ n1_ n2_ n3_; clear hb hbox hg))
 (try simp only [Act.put, List.setIfInBounds_toArray, List.set_cons_zero, List.set_cons_succ])
 go_cut [16] (fun v16 wc => ∃ (kq : Nat) (x16_2 : Bool), v16 = .bool x16_2 ∧ Aside0 (boomerangref1_Get.j0 kq a0 a1 x16_2 = some (r1, r2, r3)) ∧ Aside0 (kq ≤ k) ∧ Aside0 (wc.heap[gb236]? = some (.cells #[.int .i64 0, .int .i64 0, .int .i64 0] 60 (0, 0))) ∧ Aside0 (Below w.heap.size w wc))
 case first =>
  have H := HC3.out
  clear HC3
  by_cases c5 : a1 < 0
  ·rw [if_pos c5] at H
   have c5b0 : decide (a1 < 0) = true := decide_eq_true c5
   clear c5
   (first | rw [c5b0] | (simp only [i64_w, i32_w]; rw [c5b0]) | skip)
   have H' := Aside0.mk H
   clear H
   go_wp2
   go_meet
   case rel => exact ⟨_, (true), (by first | rfl | (simp; done) | (simp [*]; done)), H', ⟨by first | omega | exact Nat.le_refl _⟩, ⟨by (with_reducible repeat (first | refine blk_drewN ?_ _ | refine blk_drew ?_ | refine blk_alloc ?_ _)); exact BK236.out⟩, ⟨by repeat (first | (with_reducible first | exact HB.out | apply below_alloc | apply pw_below_drewN | apply below_drew1 | refine below_set ?_ GE236.out) | exact HB.out)⟩⟩
  ·rw [if_neg c5] at H
   have c5b0 : decide (a1 < 0) = false := decide_eq_false c5
   clear c5
   (first | rw [c5b0] | (simp only [i64_w, i32_w]; rw [c5b0]) | skip)
   have H' := Aside0.mk H
   clear H
   go_wp2
   go_meet
   case rel => exact ⟨_, (decide (a1 > (a0.size : Int))), (by first | rfl | (simp; done) | (simp [*]; done)), H', ⟨by first | omega | exact Nat.le_refl _⟩, ⟨by (with_reducible repeat (first | refine blk_drewN ?_ _ | refine blk_drew ?_ | refine blk_alloc ?_ _)); exact BK236.out⟩, ⟨by repeat (first | (with_reducible first | exact HB.out | apply below_alloc | apply pw_below_drewN | apply below_drew1 | refine below_set ?_ GE236.out) | exact HB.out)⟩⟩
 case rest =>
  clear HC3
  try clear p2
  try clear c3
  try clear c5
  try clear c5b0
  obtain ⟨kq, x16_2, rfl, HA, HJ2, BK236, HB⟩ := hcut
  cases kq with
  | zero => exact absurd HA.out (by simp [boomerangref1_Get.j0])
  | succ kj2 =>
   have H := HA.out
   clear HA
   simp only [boomerangref1_Get.j0] at H
   by_cases c6 : x16_2 = true
   ·subst c6
    have H1 : (some (0, 0, 1)) = some (r1, r2, r3) := by rw [if_pos rfl] at H; exact H
    clear H
    have H := H1
    clear H1
    simp only [Option.some.injEq, Prod.mk.injEq] at H
    obtain ⟨rfl, rfl, rfl⟩ := H
    have hcz7_0 : wc.cell? ⟨gb236, 0, none⟩ = some (.int .i64 0) := (blk_cell BK236.out 0).trans rfl
    have hcz7_1 : wc.cell? ⟨gb236, 1, none⟩ = some (.int .i64 0) := (blk_cell BK236.out 1).trans rfl
    have hcz7_2 : wc.cell? ⟨gb236, 2, none⟩ = some (.int .i64 0) := (blk_cell BK236.out 2).trans rfl
    have hfz7_0 := blk_frozen BK236.out 0
    have hfz7_1 := blk_frozen BK236.out 1
    have hfz7_2 := blk_frozen BK236.out 2
    go_wp2
    refine bodyPost_ret (results_cell_row rfl _ _ gb236 60 #[.int .i64 0, .int .i64 0, .int .i64 1] (0, 0) _ rfl (by (with_reducible repeat (first | refine blk_drewN ?_ _ | refine blk_drew ?_ | refine blk_alloc ?_ _)); refine blk_put (cs := #[.int .i64 0, .int .i64 0, .int .i64 0]) ?_ 2 _ rfl; (with_reducible repeat (first | refine blk_drewN ?_ _ | refine blk_drew ?_ | refine blk_alloc ?_ _)); refine blk_put (cs := #[.int .i64 0, .int .i64 0, .int .i64 0]) ?_ 1 _ rfl; (with_reducible repeat (first | refine blk_drewN ?_ _ | refine blk_drew ?_ | refine blk_alloc ?_ _)); refine blk_put (cs := #[.int .i64 0, .int .i64 0, .int .i64 0]) ?_ 0 _ rfl; (with_reducible repeat (first | refine blk_drewN ?_ _ | refine blk_drew ?_ | refine blk_alloc ?_ _)); exact BK236.out) Try.underlying60 rfl (by kernel_rfl)) rfl ?_
    exact ⟨by first | rfl | (simp [errW_none, errW_some] <;> rfl) | (simp [*, errW_none, errW_some] <;> rfl), by repeat (first | (with_reducible first | exact HB.out | apply below_alloc | apply pw_below_drewN | apply below_drew1 | refine below_set ?_ GE236.out) | exact HB.out)⟩
   ·replace c6 := Bool.eq_false_iff.mpr c6
    subst c6
    have H1 : (boomerangref1_Get.l0 kj2 a0 a1 0 0) = some (r1, r2, r3) := by rw [if_neg (show ¬ (false = true) by decide)] at H; exact H
    clear H
    have H := H1
    clear H1
    have H' := Aside0.mk H
    clear H
    go_wp2
    go_loopg [5, 6] kj2 (fun kq v5 v6 w' => ∃ (x5_2 : Int) (x6_2 : Int) (x237000_2 : Int) (x237001_2 : Int) (x237002_2 : Int), v5 = .int .u64 x5_2 ∧ v6 = .int .i64 x6_2 ∧ Aside0 (boomerangref1_Get.l0 kq a0 a1 x5_2 x6_2 = some (r1, r2, r3)) ∧ Aside0 (kq ≤ kj2) ∧ Aside0 (w'.heap[gb236]? = some (.cells #[.int .i64 x237000_2, .int .i64 x237001_2, .int .i64 x237002_2] 60 (0, 0))) ∧ Aside0 (Below w.heap.size w w'))
    case atStart => exact ⟨(0), (0), (0), (0), (0), (by first | rfl | (simp; done) | (simp [*]; done)), (by first | rfl | (simp; done) | (simp [*]; done)), H', ⟨Nat.le_refl _⟩, ⟨by (with_reducible repeat (first | refine blk_drewN ?_ _ | refine blk_drew ?_ | refine blk_alloc ?_ _)); exact BK236.out⟩, ⟨by repeat (first | (with_reducible first | exact HB.out | apply below_alloc | apply pw_below_drewN | apply below_drew1 | refine below_set ?_ GE236.out) | exact HB.out)⟩⟩
    case round =>
     clear H'
     try clear p2
     try clear c3
     try clear c5
     try clear c5b0
     try clear c6
     try clear hcz7_0
     try clear hcz7_1
     try clear hcz7_2
     try clear hfz7_0
     try clear hfz7_1
     try clear hfz7_2
     try clear p2
     obtain ⟨x5_2, x6_2, x237000_2, x237001_2, x237002_2, rfl, rfl, HA, HK2, BK236, HB⟩ := hrel
     cases gk with
     | zero => exact absurd HA.out (by simp [boomerangref1_Get.l0])
     | succ k2 =>
      have H := HA.out
      clear HA
      simp only [boomerangref1_Get.l0] at H
      by_cases c8 : x6_2 < 10
      ·rw [if_pos c8] at H
       have c8b0 : decide (x6_2 < 10) = true := decide_eq_true c8
       clear c8
       by_cases c9 : (wrap64 (a1 + x6_2)) ≥ (a0.size : Int)
       ·rw [if_pos c9] at H
        have c9b0 : decide ((a0.size : Int) ≤ (wrap64 (a1 + x6_2))) = true := decide_eq_true c9
        clear c9
        simp only [Option.some.injEq, Prod.mk.injEq] at H
        obtain ⟨rfl, rfl, rfl⟩ := H
        have hcz10_0 : wr.cell? ⟨gb236, 0, none⟩ = some (.int .i64 x237000_2) := (blk_cell BK236.out 0).trans rfl
        have hcz10_1 : wr.cell? ⟨gb236, 1, none⟩ = some (.int .i64 x237001_2) := (blk_cell BK236.out 1).trans rfl
        have hcz10_2 : wr.cell? ⟨gb236, 2, none⟩ = some (.int .i64 x237002_2) := (blk_cell BK236.out 2).trans rfl
        have hfz10_0 := blk_frozen BK236.out 0
        have hfz10_1 := blk_frozen BK236.out 1
        have hfz10_2 := blk_frozen BK236.out 2
        go_wp2
        refine bodyPost_ret (results_cell_row rfl _ _ gb236 60 #[.int .i64 0, .int .i64 0, .int .i64 3] (0, 0) _ rfl (by (with_reducible repeat (first | refine blk_drewN ?_ _ | refine blk_drew ?_ | refine blk_alloc ?_ _)); refine blk_put (cs := #[.int .i64 0, .int .i64 0, .int .i64 x237002_2]) ?_ 2 _ rfl; (with_reducible repeat (first | refine blk_drewN ?_ _ | refine blk_drew ?_ | refine blk_alloc ?_ _)); refine blk_put (cs := #[.int .i64 0, .int .i64 x237001_2, .int .i64 x237002_2]) ?_ 1 _ rfl; (with_reducible repeat (first | refine blk_drewN ?_ _ | refine blk_drew ?_ | refine blk_alloc ?_ _)); refine blk_put (cs := #[.int .i64 x237000_2, .int .i64 x237001_2, .int .i64 x237002_2]) ?_ 0 _ rfl; (with_reducible repeat (first | refine blk_drewN ?_ _ | refine blk_drew ?_ | refine blk_alloc ?_ _)); exact BK236.out) Try.underlying60 rfl (by kernel_rfl)) rfl ?_
        exact ⟨by first | rfl | (simp [errW_none, errW_some] <;> rfl) | (simp [*, errW_none, errW_some] <;> rfl), by repeat (first | (with_reducible first | exact HB.out | apply below_alloc | apply pw_below_drewN | apply below_drew1 | refine below_set ?_ GE236.out) | exact HB.out)⟩
       ·rw [if_neg c9] at H
        have c9b0 : decide ((a0.size : Int) ≤ (wrap64 (a1 + x6_2))) = false := decide_eq_false c9
        clear c9
        obtain ⟨ji11, hji11⟩ : ∃ j_ : Int, (wrap64 (a1 + x6_2)) = j_ := ⟨_, rfl⟩
        replace H : (if 0 ≤ (ji11) then (if (ji11) < (a0.size : Int) then (if 0 ≤ (wrap64 (7 * x6_2)) then (if (bt a0 (ji11)) < 128 then (if (Go.bits .and .u64 (Go.bits .or .u64 x5_2 (shl .u64 (IntKind.u64.wrap (Go.bits .and .u8 (bt a0 (ji11)) 127)) (wrap64 (7 * x6_2)))) 1) = 1 then ((boomerangref1_Put.f k2 (wrap64 ((wrap64 (-(wrap64 ((Go.bits .or .u64 x5_2 (shl .u64 (IntKind.u64.wrap (Go.bits .and .u8 (bt a0 (ji11)) 127)) (wrap64 (7 * x6_2)))) / 2)))) - 1))).bind fun t237 => (if 0 ≤ a1 then (if a1 ≤ (wrap64 ((ji11) + 1)) then (if (wrap64 ((ji11) + 1)) ≤ (a0.size : Int) then (if t237.toList = (a0.extract (a1 : Int).toNat ((wrap64 ((ji11) + 1)) : Int).toNat).toList then (some (wrap64 ((wrap64 (-(wrap64 ((Go.bits .or .u64 x5_2 (shl .u64 (IntKind.u64.wrap (Go.bits .and .u8 (bt a0 (ji11)) 127)) (wrap64 (7 * x6_2)))) / 2)))) - 1), wrap64 ((ji11) + 1), 0)) else (some (0, 0, 4))) else (none)) else (none)) else (none))) else ((boomerangref1_Put.f k2 (wrap64 ((Go.bits .or .u64 x5_2 (shl .u64 (IntKind.u64.wrap (Go.bits .and .u8 (bt a0 (ji11)) 127)) (wrap64 (7 * x6_2)))) / 2))).bind fun t238 => (if 0 ≤ a1 then (if a1 ≤ (wrap64 ((ji11) + 1)) then (if (wrap64 ((ji11) + 1)) ≤ (a0.size : Int) then (if t238.toList = (a0.extract (a1 : Int).toNat ((wrap64 ((ji11) + 1)) : Int).toNat).toList then (some (wrap64 ((Go.bits .or .u64 x5_2 (shl .u64 (IntKind.u64.wrap (Go.bits .and .u8 (bt a0 (ji11)) 127)) (wrap64 (7 * x6_2)))) / 2), wrap64 ((ji11) + 1), 0)) else (some (0, 0, 4))) else (none)) else (none)) else (none)))) else (boomerangref1_Get.l0 k2 a0 a1 (Go.bits .or .u64 x5_2 (shl .u64 (IntKind.u64.wrap (Go.bits .and .u8 (bt a0 (ji11)) 127)) (wrap64 (7 * x6_2)))) (wrap64 (x6_2 + 1)))) else (none)) else (none)) else (none)) = some (r1, r2, r3) := by first | (rw [hji11] at H; exact H) | (simp only [hji11] at H ⊢; exact H)
        (try rw [hji11] at c9b0)
        have hji11w : (IntKind.i64.wrap (a1 + x6_2)) = ji11 := (i64_w _).trans hji11
        by_cases c12 : 0 ≤ (ji11)
        ·rw [if_pos c12] at H
         have c12b0 : decide (0 ≤ (ji11)) = true := decide_eq_true c12
         clear c12
         by_cases c13 : (ji11) < (a0.size : Int)
         ·rw [if_pos c13] at H
          have c13b0 : decide ((ji11) < (a0.size : Int)) = true := decide_eq_true c13
          clear c13
          obtain ⟨ji15, hji15⟩ : ∃ j_ : Int, (wrap64 (7 * x6_2)) = j_ := ⟨_, rfl⟩
          replace H : (if 0 ≤ (ji15) then (if (bt a0 (ji11)) < 128 then (if (Go.bits .and .u64 (Go.bits .or .u64 x5_2 (shl .u64 (IntKind.u64.wrap (Go.bits .and .u8 (bt a0 (ji11)) 127)) (ji15))) 1) = 1 then ((boomerangref1_Put.f k2 (wrap64 ((wrap64 (-(wrap64 ((Go.bits .or .u64 x5_2 (shl .u64 (IntKind.u64.wrap (Go.bits .and .u8 (bt a0 (ji11)) 127)) (ji15))) / 2)))) - 1))).bind fun t237 => (if 0 ≤ a1 then (if a1 ≤ (wrap64 ((ji11) + 1)) then (if (wrap64 ((ji11) + 1)) ≤ (a0.size : Int) then (if t237.toList = (a0.extract (a1 : Int).toNat ((wrap64 ((ji11) + 1)) : Int).toNat).toList then (some (wrap64 ((wrap64 (-(wrap64 ((Go.bits .or .u64 x5_2 (shl .u64 (IntKind.u64.wrap (Go.bits .and .u8 (bt a0 (ji11)) 127)) (ji15))) / 2)))) - 1), wrap64 ((ji11) + 1), 0)) else (some (0, 0, 4))) else (none)) else (none)) else (none))) else ((boomerangref1_Put.f k2 (wrap64 ((Go.bits .or .u64 x5_2 (shl .u64 (IntKind.u64.wrap (Go.bits .and .u8 (bt a0 (ji11)) 127)) (ji15))) / 2))).bind fun t238 => (if 0 ≤ a1 then (if a1 ≤ (wrap64 ((ji11) + 1)) then (if (wrap64 ((ji11) + 1)) ≤ (a0.size : Int) then (if t238.toList = (a0.extract (a1 : Int).toNat ((wrap64 ((ji11) + 1)) : Int).toNat).toList then (some (wrap64 ((Go.bits .or .u64 x5_2 (shl .u64 (IntKind.u64.wrap (Go.bits .and .u8 (bt a0 (ji11)) 127)) (ji15))) / 2), wrap64 ((ji11) + 1), 0)) else (some (0, 0, 4))) else (none)) else (none)) else (none)))) else (boomerangref1_Get.l0 k2 a0 a1 (Go.bits .or .u64 x5_2 (shl .u64 (IntKind.u64.wrap (Go.bits .and .u8 (bt a0 (ji11)) 127)) (ji15))) (wrap64 (x6_2 + 1)))) else (none)) = some (r1, r2, r3) := by first | (rw [hji15] at H; exact H) | (simp only [hji15] at H ⊢; exact H)
          have hji15w : (IntKind.i64.wrap (7 * x6_2)) = ji15 := (i64_w _).trans hji15
          by_cases c16 : 0 ≤ (ji15)
          ·rw [if_pos c16] at H
           have c16b0 := eq_true c16
           have c16b1 : decide (0 ≤ (ji15)) = true := decide_eq_true c16
           clear c16
           obtain ⟨ji17, hji17⟩ : ∃ j_ : Int, (shl .u64 (IntKind.u64.wrap (Go.bits .and .u8 (bt a0 (ji11)) 127)) (ji15)) = j_ := ⟨_, rfl⟩
           replace H : (if (bt a0 (ji11)) < 128 then (if (Go.bits .and .u64 (Go.bits .or .u64 x5_2 (ji17)) 1) = 1 then ((boomerangref1_Put.f k2 (wrap64 ((wrap64 (-(wrap64 ((Go.bits .or .u64 x5_2 (ji17)) / 2)))) - 1))).bind fun t237 => (if 0 ≤ a1 then (if a1 ≤ (wrap64 ((ji11) + 1)) then (if (wrap64 ((ji11) + 1)) ≤ (a0.size : Int) then (if t237.toList = (a0.extract (a1 : Int).toNat ((wrap64 ((ji11) + 1)) : Int).toNat).toList then (some (wrap64 ((wrap64 (-(wrap64 ((Go.bits .or .u64 x5_2 (ji17)) / 2)))) - 1), wrap64 ((ji11) + 1), 0)) else (some (0, 0, 4))) else (none)) else (none)) else (none))) else ((boomerangref1_Put.f k2 (wrap64 ((Go.bits .or .u64 x5_2 (ji17)) / 2))).bind fun t238 => (if 0 ≤ a1 then (if a1 ≤ (wrap64 ((ji11) + 1)) then (if (wrap64 ((ji11) + 1)) ≤ (a0.size : Int) then (if t238.toList = (a0.extract (a1 : Int).toNat ((wrap64 ((ji11) + 1)) : Int).toNat).toList then (some (wrap64 ((Go.bits .or .u64 x5_2 (ji17)) / 2), wrap64 ((ji11) + 1), 0)) else (some (0, 0, 4))) else (none)) else (none)) else (none)))) else (boomerangref1_Get.l0 k2 a0 a1 (Go.bits .or .u64 x5_2 (ji17)) (wrap64 (x6_2 + 1)))) = some (r1, r2, r3) := by first | (rw [hji17] at H; exact H) | (simp only [hji17] at H ⊢; exact H)
           have hji17_ : (IntKind.u64.wrap ((IntKind.u64.wrap (Go.bits .and .u8 (bt a0 (ji11)) 127)) * 2 ^ min (ji15).toNat 64)) = ji17 := hji17
           have hji17z : (ji15) ≤ 64 → (IntKind.u64.wrap ((IntKind.u64.wrap (Go.bits .and .u8 (bt a0 (ji11)) 127)) * 2 ^ (ji15).toNat)) = ji17 := shl_small hji17
           by_cases c18 : (bt a0 (ji11)) < 128
           ·rw [if_pos c18] at H
            have c18b0 : decide ((bt a0 (ji11)) < 128) = true := decide_eq_true c18
            clear c18
            by_cases c19 : (Go.bits .and .u64 (Go.bits .or .u64 x5_2 (ji17)) 1) = 1
            ·rw [if_pos c19] at H
             have c19b0 : ((Go.bits .and .u64 (Go.bits .or .u64 x5_2 (ji17)) 1) == 1) = true := beq_iff_eq.mpr c19
             have c19b1 : ((Go.bits .and .u64 (Go.bits .or .u64 x5_2 (ji17)) 1) != 1) = false := bne_eq_false_iff_eq.mpr c19
             clear c19
             replace H := Option.bind_eq_some_iff.mp H
             obtain ⟨t237, A200, H⟩ := H
             replace H : (if 0 ≤ a1 then (if a1 ≤ (wrap64 ((ji11) + 1)) then (if (wrap64 ((ji11) + 1)) ≤ (a0.size : Int) then (if t237.toList = (a0.extract (a1 : Int).toNat ((wrap64 ((ji11) + 1)) : Int).toNat).toList then (some (wrap64 ((wrap64 (-(wrap64 ((Go.bits .or .u64 x5_2 (ji17)) / 2)))) - 1), wrap64 ((ji11) + 1), 0)) else (some (0, 0, 4))) else (none)) else (none)) else (none)) = some (r1, r2, r3) := H
             have A20 := Aside0.mk A200
             clear A200
             by_cases c21 : 0 ≤ a1
             ·rw [if_pos c21] at H
              have c21b0 := eq_true c21
              have c21b1 : decide (0 ≤ a1) = true := decide_eq_true c21
              clear c21
              by_cases c22 : a1 ≤ (wrap64 ((ji11) + 1))
              ·rw [if_pos c22] at H
               have c22b0 := eq_true c22
               have c22b1 : decide (a1 ≤ (wrap64 ((ji11) + 1))) = true := decide_eq_true c22
               by_cases c23 : (wrap64 ((ji11) + 1)) ≤ (a0.size : Int)
               ·rw [if_pos c23] at H
                have c23b0 := eq_true c23
                have c23b1 : decide ((wrap64 ((ji11) + 1)) ≤ (a0.size : Int)) = true := decide_eq_true c23
                by_cases c24 : t237.toList = (a0.extract (a1 : Int).toNat ((wrap64 ((ji11) + 1)) : Int).toNat).toList
                ·rw [if_pos c24] at H
                 have c24b0 : (t237.toList == (a0.extract (a1 : Int).toNat ((wrap64 ((ji11) + 1)) : Int).toNat).toList) = true := beq_iff_eq.mpr c24
                 have c24b1 : (t237.toList != (a0.extract (a1 : Int).toNat ((wrap64 ((ji11) + 1)) : Int).toNat).toList) = false := bne_eq_false_iff_eq.mpr c24
                 clear c24
                 simp only [Option.some.injEq, Prod.mk.injEq] at H
                 obtain ⟨rfl, rfl, rfl⟩ := H
                 have p14 : 0 ≤ ((ji11) : Int) := of_decide_eq_true (by first | (with_reducible assumption) | assumption)
                 have q14 : (ji11) < (a0.size : Int) := of_decide_eq_true (by first | (with_reducible assumption) | assumption)
                 have hx14 := bt_at a0 (ji11)
                 replace p14 := eq_true p14
                 replace q14 := eq_true q14
                 try go_wp2
                 have n0_ := Aside0.mk (blk_drew BK236.out)
                 have n1_ := Aside0.mk (below_drew1 HB.out)
                 clear BK236
                 clear HB
                 have BK236 := n0_
                 have HB := n1_
                 clear n0_ n1_
                 refine start_ (n := 10) (S := fun w' => True) (ds := []) #[false, false, false, false, false, false, false, false, false, false] (by kernel_rfl) rfl rfl trivial (fun hHeld => ?_); refine with_tabW boomerangref1_Get.tab15 boomerangref1_Get.bits15 (fun HT_ HW_ => ?_)
                 generalize wr.drew = w25 at BK236 HB hHeld ⊢
                 refine pure_ (i := 0) (N := some 53) (v := ?_) (a' := ?_) #[true, false, false, false, false, false, false, false, false, false] rfl rfl (any_of HT_.out (by kernel_rfl)) (fun _ _ _ h => h) (Or.inl ⟨by rfl, ?_⟩) ?_ ?_
                 rotate_left
                 ·intro w'
                  go_simp
                  with_reducible rfl
                 rotate_left
                 ·simp only [Act.put, List.setIfInBounds_toArray, List.set_cons_zero, List.set_cons_succ, i64_w, i32_w]
                  rfl
                 refine pure_ (i := 2) (N := some 55) (v := ?_) (a' := ?_) #[true, false, true, false, false, false, false, false, false, false] rfl rfl (any_of HT_.out (by kernel_rfl)) (fun _ _ _ h => h) (Or.inl ⟨by rfl, ?_⟩) ?_ ?_
                 rotate_left
                 ·intro w'
                  go_simp
                  with_reducible rfl
                 rotate_left
                 ·simp only [Act.put, List.setIfInBounds_toArray, List.set_cons_zero, List.set_cons_succ, i64_w, i32_w]
                  rfl
                 refine pure_ (i := 3) (N := some 56) (v := ?_) (a' := ?_) #[true, false, true, true, false, false, false, false, false, false] rfl rfl (any_of HT_.out (by kernel_rfl)) (fun _ _ _ h => h) (Or.inl ⟨by rfl, ?_⟩) ?_ ?_
                 rotate_left
                 ·intro w'
                  go_simp
                  with_reducible rfl
                 rotate_left
                 ·simp only [Act.put, List.setIfInBounds_toArray, List.set_cons_zero, List.set_cons_succ, i64_w, i32_w]
                  rfl
                 refine pure_ (i := 4) (N := some 57) (v := ?_) (a' := ?_) #[true, false, true, true, true, false, false, false, false, false] rfl rfl (any_of HT_.out (by kernel_rfl)) (fun _ _ _ h => h) (Or.inl ⟨by rfl, ?_⟩) ?_ ?_
                 rotate_left
                 ·intro w'
                  go_simp
                  with_reducible rfl
                 rotate_left
                 ·simp only [Act.put, List.setIfInBounds_toArray, List.set_cons_zero, List.set_cons_succ, i64_w, i32_w]
                  rfl
                 refine pure_ (i := 5) (N := some 58) (v := ?_) (a' := ?_) #[true, false, true, true, true, true, false, false, false, false] rfl rfl (any_of HT_.out (by kernel_rfl)) (fun _ _ _ h => h) (Or.inl ⟨by rfl, ?_⟩) ?_ ?_
                 rotate_left
                 ·intro w'
                  go_simp
                  with_reducible rfl
                 rotate_left
                 ·simp only [Act.put, List.setIfInBounds_toArray, List.set_cons_zero, List.set_cons_succ, i64_w, i32_w]
                  rfl
                 refine pure_ (i := 6) (N := some 59) (v := ?_) (a' := ?_) #[true, false, true, true, true, true, true, false, false, false] rfl rfl (any_of HT_.out (by kernel_rfl)) (fun _ _ _ h => h) (Or.inl ⟨by rfl, ?_⟩) ?_ ?_
                 rotate_left
                 ·intro w'
                  go_simp
                  with_reducible rfl
                 rotate_left
                 ·simp only [Act.put, List.setIfInBounds_toArray, List.set_cons_zero, List.set_cons_succ, i64_w, i32_w]
                  rfl
                 refine pure_ (i := 7) (N := some 60) (v := ?_) (a' := ?_) #[true, false, true, true, true, true, true, true, false, false] rfl rfl (any_of HT_.out (by kernel_rfl)) (fun _ _ _ h => h) (Or.inl ⟨by rfl, ?_⟩) ?_ ?_
                 rotate_left
                 ·intro w'
                  go_simp
                  with_reducible rfl
                 rotate_left
                 ·simp only [Act.put, List.setIfInBounds_toArray, List.set_cons_zero, List.set_cons_succ, i64_w, i32_w]
                  rfl
                 refine pure_ (i := 8) (N := some 61) (v := ?_) (a' := ?_) #[true, false, true, true, true, true, true, true, true, false] rfl rfl (any_of HT_.out (by kernel_rfl)) (fun _ _ _ h => h) (Or.inl ⟨by rfl, ?_⟩) ?_ ?_
                 rotate_left
                 ·intro w'
                  go_simp
                  with_reducible rfl
                 rotate_left
                 ·simp only [Act.put, List.setIfInBounds_toArray, List.set_cons_zero, List.set_cons_succ, i64_w, i32_w]
                  rfl
                 refine one_ (i := 1) (N := some 54) #[true, true, true, true, true, true, true, true, true, false] rfl rfl (one_of HT_.out (by kernel_rfl)) (by decide) (fun K hK => ?_)
                 refine goes_ Try.func27 (by kernel_rfl) rfl #[.int .i64 (wrap64 ((wrap64 (-(wrap64 ((Go.bits .or .u64 x5_2 (ji17)) / 2)))) - 1))] (by rfl) rfl rfl (by (try simp only [List.map_toArray, List.map_cons, List.map_nil]); first | done | (simp only [hji17]; rfl) | rfl | (simp only [List.length_drop, List.length_take]; rfl)) ?_
                 with_reducible refine (boomerangref1_Put.calls k2 (wrap64 ((wrap64 (-(wrap64 ((Go.bits .or .u64 x5_2 (ji17)) / 2)))) - 1)) t237 _ A20.out).mono ?_
                 rintro e w26 ⟨rfl, hb⟩
                 refine ⟨_, rfl, ?_⟩
                 have n0_ := Aside0.mk (blk_below (g := gb236) (o := .cells #[.int .i64 x237000_2, .int .i64 x237001_2, .int .i64 x237002_2] 60 (0, 0)) (by (with_reducible repeat (first | refine blk_drewN ?_ _ | refine blk_drew ?_ | refine blk_alloc ?_ _)); exact BK236.out) hb)
                 have n1_ := Aside0.mk (below_step (by repeat (first | (with_reducible first | exact HB.out | apply below_alloc | apply pw_below_drewN | apply below_drew1 | refine below_set ?_ GE236.out) | exact HB.out)) hb)
                 clear BK236
                 clear HB
                 have BK236 := n0_
                 have HB := n1_
                 clear n0_ n1_
                 (try clear hb)
                 (try clear hb2)
                 (try clear hk)
                 (try clear hi)
                 refine hK.out _ _ trivial (fun hHeld => ?_)
                 clear hK K
                 refine norm_ (a' := ?_) ?_ ?_
                 rotate_left
                 ·show Act.put _ (some 54) _ = _
                  simp only [Act.put, List.setIfInBounds_toArray, List.set_cons_zero, List.set_cons_succ, i64_w, i32_w]
                  rfl
                 refine pure_ (i := 9) (N := some 62) (v := ?_) (a' := ?_) #[true, true, true, true, true, true, true, true, true, true] rfl rfl (any_of HT_.out (by kernel_rfl)) (fun _ _ _ h => h) (Or.inl ⟨by rfl, ?_⟩) ?_ ?_
                 rotate_left
                 ·intro w'
                  go_simp
                  with_reducible rfl
                 rotate_left
                 ·simp only [Act.put, List.setIfInBounds_toArray, List.set_cons_zero, List.set_cons_succ, i64_w, i32_w]
                  rfl
                 refine done_ (done_of HT_.out (by kernel_rfl)) ?_
                 have hcz27_0 : w26.cell? ⟨gb236, 0, none⟩ = some (.int .i64 x237000_2) := (blk_cell BK236.out 0).trans rfl
                 have hcz27_1 : w26.cell? ⟨gb236, 1, none⟩ = some (.int .i64 x237001_2) := (blk_cell BK236.out 1).trans rfl
                 have hcz27_2 : w26.cell? ⟨gb236, 2, none⟩ = some (.int .i64 x237002_2) := (blk_cell BK236.out 2).trans rfl
                 have hfz27_0 := blk_frozen BK236.out 0
                 have hfz27_1 := blk_frozen BK236.out 1
                 have hfz27_2 := blk_frozen BK236.out 2
                 try go_wp2
                 refine bodyPost_ret (results_cell_row rfl _ _ gb236 60 #[.int .i64 (wrap64 ((wrap64 (-(wrap64 ((Go.bits .or .u64 x5_2 (ji17)) / 2)))) - 1)), .int .i64 (wrap64 ((ji11) + 1)), .int .i64 0] (0, 0) _ rfl (by (with_reducible repeat (first | refine blk_drewN ?_ _ | refine blk_drew ?_ | refine blk_alloc ?_ _)); refine blk_put (cs := #[.int .i64 (wrap64 ((wrap64 (-(wrap64 ((Go.bits .or .u64 x5_2 (ji17)) / 2)))) - 1)), .int .i64 (wrap64 ((ji11) + 1)), .int .i64 x237002_2]) ?_ 2 _ rfl; (with_reducible repeat (first | refine blk_drewN ?_ _ | refine blk_drew ?_ | refine blk_alloc ?_ _)); refine blk_put (cs := #[.int .i64 (wrap64 ((wrap64 (-(wrap64 ((Go.bits .or .u64 x5_2 (ji17)) / 2)))) - 1)), .int .i64 x237001_2, .int .i64 x237002_2]) ?_ 1 _ rfl; (with_reducible repeat (first | refine blk_drewN ?_ _ | refine blk_drew ?_ | refine blk_alloc ?_ _)); refine blk_put (cs := #[.int .i64 x237000_2, .int .i64 x237001_2, .int .i64 x237002_2]) ?_ 0 _ rfl; (with_reducible repeat (first | refine blk_drewN ?_ _ | refine blk_drew ?_ | refine blk_alloc ?_ _)); exact BK236.out) Try.underlying60 rfl (by kernel_rfl)) rfl ?_
                 exact ⟨by first | rfl | (simp [errW_none, errW_some] <;> rfl) | (simp only [← hji11, ← hji15, ← hji17]; first | rfl | (simp [errW_none, errW_some] <;> rfl)) | (simp [*, errW_none, errW_some] <;> rfl), by repeat (first | (with_reducible first | exact HB.out | apply below_alloc | apply pw_below_drewN | apply below_drew1 | refine below_set ?_ GE236.out) | exact HB.out)⟩
                ·rw [if_neg c24] at H
                 have c24b0 : (t237.toList == (a0.extract (a1 : Int).toNat ((wrap64 ((ji11) + 1)) : Int).toNat).toList) = false := beq_eq_false_iff_ne.mpr c24
                 have c24b1 : (t237.toList != (a0.extract (a1 : Int).toNat ((wrap64 ((ji11) + 1)) : Int).toNat).toList) = true := bne_iff_ne.mpr c24
                 simp only [Option.some.injEq, Prod.mk.injEq] at H
                 obtain ⟨rfl, rfl, rfl⟩ := H
                 have p14 : 0 ≤ ((ji11) : Int) := of_decide_eq_true (by first | (with_reducible assumption) | assumption)
                 have q14 : (ji11) < (a0.size : Int) := of_decide_eq_true (by first | (with_reducible assumption) | assumption)
                 have hx14 := bt_at a0 (ji11)
                 replace p14 := eq_true p14
                 replace q14 := eq_true q14
                 try go_wp2
                 have n0_ := Aside0.mk (blk_drew BK236.out)
                 have n1_ := Aside0.mk (below_drew1 HB.out)
                 clear BK236
                 clear HB
                 have BK236 := n0_
                 have HB := n1_
                 clear n0_ n1_
                 refine start_ (n := 10) (S := fun w' => True) (ds := []) #[false, false, false, false, false, false, false, false, false, false] (by kernel_rfl) rfl rfl trivial (fun hHeld => ?_); refine with_tabW boomerangref1_Get.tab15 boomerangref1_Get.bits15 (fun HT_ HW_ => ?_)
                 generalize wr.drew = w28 at BK236 HB hHeld ⊢
                 refine pure_ (i := 0) (N := some 53) (v := ?_) (a' := ?_) #[true, false, false, false, false, false, false, false, false, false] rfl rfl (any_of HT_.out (by kernel_rfl)) (fun _ _ _ h => h) (Or.inl ⟨by rfl, ?_⟩) ?_ ?_
                 rotate_left
                 ·intro w'
                  go_simp
                  with_reducible rfl
                 rotate_left
                 ·simp only [Act.put, List.setIfInBounds_toArray, List.set_cons_zero, List.set_cons_succ, i64_w, i32_w]
                  rfl
                 refine pure_ (i := 2) (N := some 55) (v := ?_) (a' := ?_) #[true, false, true, false, false, false, false, false, false, false] rfl rfl (any_of HT_.out (by kernel_rfl)) (fun _ _ _ h => h) (Or.inl ⟨by rfl, ?_⟩) ?_ ?_
                 rotate_left
                 ·intro w'
                  go_simp
                  with_reducible rfl
                 rotate_left
                 ·simp only [Act.put, List.setIfInBounds_toArray, List.set_cons_zero, List.set_cons_succ, i64_w, i32_w]
                  rfl
                 refine pure_ (i := 3) (N := some 56) (v := ?_) (a' := ?_) #[true, false, true, true, false, false, false, false, false, false] rfl rfl (any_of HT_.out (by kernel_rfl)) (fun _ _ _ h => h) (Or.inl ⟨by rfl, ?_⟩) ?_ ?_
                 rotate_left
                 ·intro w'
                  go_simp
                  with_reducible rfl
                 rotate_left
                 ·simp only [Act.put, List.setIfInBounds_toArray, List.set_cons_zero, List.set_cons_succ, i64_w, i32_w]
                  rfl
                 refine pure_ (i := 4) (N := some 57) (v := ?_) (a' := ?_) #[true, false, true, true, true, false, false, false, false, false] rfl rfl (any_of HT_.out (by kernel_rfl)) (fun _ _ _ h => h) (Or.inl ⟨by rfl, ?_⟩) ?_ ?_
                 rotate_left
                 ·intro w'
                  go_simp
                  with_reducible rfl
                 rotate_left
                 ·simp only [Act.put, List.setIfInBounds_toArray, List.set_cons_zero, List.set_cons_succ, i64_w, i32_w]
                  rfl
                 refine pure_ (i := 5) (N := some 58) (v := ?_) (a' := ?_) #[true, false, true, true, true, true, false, false, false, false] rfl rfl (any_of HT_.out (by kernel_rfl)) (fun _ _ _ h => h) (Or.inl ⟨by rfl, ?_⟩) ?_ ?_
                 rotate_left
                 ·intro w'
                  go_simp
                  with_reducible rfl
                 rotate_left
                 ·simp only [Act.put, List.setIfInBounds_toArray, List.set_cons_zero, List.set_cons_succ, i64_w, i32_w]
                  rfl
                 refine pure_ (i := 6) (N := some 59) (v := ?_) (a' := ?_) #[true, false, true, true, true, true, true, false, false, false] rfl rfl (any_of HT_.out (by kernel_rfl)) (fun _ _ _ h => h) (Or.inl ⟨by rfl, ?_⟩) ?_ ?_
                 rotate_left
                 ·intro w'
                  go_simp
                  with_reducible rfl
                 rotate_left
                 ·simp only [Act.put, List.setIfInBounds_toArray, List.set_cons_zero, List.set_cons_succ, i64_w, i32_w]
                  rfl
                 refine pure_ (i := 7) (N := some 60) (v := ?_) (a' := ?_) #[true, false, true, true, true, true, true, true, false, false] rfl rfl (any_of HT_.out (by kernel_rfl)) (fun _ _ _ h => h) (Or.inl ⟨by rfl, ?_⟩) ?_ ?_
                 rotate_left
                 ·intro w'
                  go_simp
                  with_reducible rfl
                 rotate_left
                 ·simp only [Act.put, List.setIfInBounds_toArray, List.set_cons_zero, List.set_cons_succ, i64_w, i32_w]
                  rfl
                 refine pure_ (i := 8) (N := some 61) (v := ?_) (a' := ?_) #[true, false, true, true, true, true, true, true, true, false] rfl rfl (any_of HT_.out (by kernel_rfl)) (fun _ _ _ h => h) (Or.inl ⟨by rfl, ?_⟩) ?_ ?_
                 rotate_left
                 ·intro w'
                  go_simp
                  with_reducible rfl
                 rotate_left
                 ·simp only [Act.put, List.setIfInBounds_toArray, List.set_cons_zero, List.set_cons_succ, i64_w, i32_w]
                  rfl
                 refine one_ (i := 1) (N := some 54) #[true, true, true, true, true, true, true, true, true, false] rfl rfl (one_of HT_.out (by kernel_rfl)) (by decide) (fun K hK => ?_)
                 refine goes_ Try.func27 (by kernel_rfl) rfl #[.int .i64 (wrap64 ((wrap64 (-(wrap64 ((Go.bits .or .u64 x5_2 (ji17)) / 2)))) - 1))] (by rfl) rfl rfl (by (try simp only [List.map_toArray, List.map_cons, List.map_nil]); first | done | (simp only [hji17]; rfl) | rfl | (simp only [List.length_drop, List.length_take]; rfl)) ?_
                 with_reducible refine (boomerangref1_Put.calls k2 (wrap64 ((wrap64 (-(wrap64 ((Go.bits .or .u64 x5_2 (ji17)) / 2)))) - 1)) t237 _ A20.out).mono ?_
                 rintro e w29 ⟨rfl, hb⟩
                 refine ⟨_, rfl, ?_⟩
                 have n0_ := Aside0.mk (blk_below (g := gb236) (o := .cells #[.int .i64 x237000_2, .int .i64 x237001_2, .int .i64 x237002_2] 60 (0, 0)) (by (with_reducible repeat (first | refine blk_drewN ?_ _ | refine blk_drew ?_ | refine blk_alloc ?_ _)); exact BK236.out) hb)
                 have n1_ := Aside0.mk (below_step (by repeat (first | (with_reducible first | exact HB.out | apply below_alloc | apply pw_below_drewN | apply below_drew1 | refine below_set ?_ GE236.out) | exact HB.out)) hb)
                 clear BK236
                 clear HB
                 have BK236 := n0_
                 have HB := n1_
                 clear n0_ n1_
                 (try clear hb)
                 (try clear hb2)
                 (try clear hk)
                 (try clear hi)
                 refine hK.out _ _ trivial (fun hHeld => ?_)
                 clear hK K
                 refine norm_ (a' := ?_) ?_ ?_
                 rotate_left
                 ·show Act.put _ (some 54) _ = _
                  simp only [Act.put, List.setIfInBounds_toArray, List.set_cons_zero, List.set_cons_succ, i64_w, i32_w]
                  rfl
                 refine pure_ (i := 9) (N := some 62) (v := ?_) (a' := ?_) #[true, true, true, true, true, true, true, true, true, true] rfl rfl (any_of HT_.out (by kernel_rfl)) (fun _ _ _ h => h) (Or.inl ⟨by rfl, ?_⟩) ?_ ?_
                 rotate_left
                 ·intro w'
                  go_simp
                  with_reducible rfl
                 rotate_left
                 ·simp only [Act.put, List.setIfInBounds_toArray, List.set_cons_zero, List.set_cons_succ, i64_w, i32_w]
                  rfl
                 refine done_ (done_of HT_.out (by kernel_rfl)) ?_
                 have hcz30_0 : w29.cell? ⟨gb236, 0, none⟩ = some (.int .i64 x237000_2) := (blk_cell BK236.out 0).trans rfl
                 have hcz30_1 : w29.cell? ⟨gb236, 1, none⟩ = some (.int .i64 x237001_2) := (blk_cell BK236.out 1).trans rfl
                 have hcz30_2 : w29.cell? ⟨gb236, 2, none⟩ = some (.int .i64 x237002_2) := (blk_cell BK236.out 2).trans rfl
                 have hfz30_0 := blk_frozen BK236.out 0
                 have hfz30_1 := blk_frozen BK236.out 1
                 have hfz30_2 := blk_frozen BK236.out 2
                 try go_wp2
                 refine bodyPost_ret (results_cell_row rfl _ _ gb236 60 #[.int .i64 0, .int .i64 0, .int .i64 4] (0, 0) _ rfl (by (with_reducible repeat (first | refine blk_drewN ?_ _ | refine blk_drew ?_ | refine blk_alloc ?_ _)); refine blk_put (cs := #[.int .i64 0, .int .i64 0, .int .i64 x237002_2]) ?_ 2 _ rfl; (with_reducible repeat (first | refine blk_drewN ?_ _ | refine blk_drew ?_ | refine blk_alloc ?_ _)); refine blk_put (cs := #[.int .i64 0, .int .i64 x237001_2, .int .i64 x237002_2]) ?_ 1 _ rfl; (with_reducible repeat (first | refine blk_drewN ?_ _ | refine blk_drew ?_ | refine blk_alloc ?_ _)); refine blk_put (cs := #[.int .i64 x237000_2, .int .i64 x237001_2, .int .i64 x237002_2]) ?_ 0 _ rfl; (with_reducible repeat (first | refine blk_drewN ?_ _ | refine blk_drew ?_ | refine blk_alloc ?_ _)); exact BK236.out) Try.underlying60 rfl (by kernel_rfl)) rfl ?_
                 exact ⟨by first | rfl | (simp [errW_none, errW_some] <;> rfl) | (simp only [← hji11, ← hji15, ← hji17]; first | rfl | (simp [errW_none, errW_some] <;> rfl)) | (simp [*, errW_none, errW_some] <;> rfl), by repeat (first | (with_reducible first | exact HB.out | apply below_alloc | apply pw_below_drewN | apply below_drew1 | refine below_set ?_ GE236.out) | exact HB.out)⟩
               ·rw [if_neg c23] at H
                exact absurd H (by simp)
              ·rw [if_neg c22] at H
               exact absurd H (by simp)
             ·rw [if_neg c21] at H
              exact absurd H (by simp)
            ·rw [if_neg c19] at H
             have c19b0 : ((Go.bits .and .u64 (Go.bits .or .u64 x5_2 (ji17)) 1) == 1) = false := beq_eq_false_iff_ne.mpr c19
             have c19b1 : ((Go.bits .and .u64 (Go.bits .or .u64 x5_2 (ji17)) 1) != 1) = true := bne_iff_ne.mpr c19
             replace H := Option.bind_eq_some_iff.mp H
             obtain ⟨t238, A310, H⟩ := H
             replace H : (if 0 ≤ a1 then (if a1 ≤ (wrap64 ((ji11) + 1)) then (if (wrap64 ((ji11) + 1)) ≤ (a0.size : Int) then (if t238.toList = (a0.extract (a1 : Int).toNat ((wrap64 ((ji11) + 1)) : Int).toNat).toList then (some (wrap64 ((Go.bits .or .u64 x5_2 (ji17)) / 2), wrap64 ((ji11) + 1), 0)) else (some (0, 0, 4))) else (none)) else (none)) else (none)) = some (r1, r2, r3) := H
             have A31 := Aside0.mk A310
             clear A310
             by_cases c32 : 0 ≤ a1
             ·rw [if_pos c32] at H
              have c32b0 := eq_true c32
              have c32b1 : decide (0 ≤ a1) = true := decide_eq_true c32
              clear c32
              by_cases c33 : a1 ≤ (wrap64 ((ji11) + 1))
              ·rw [if_pos c33] at H
               have c33b0 := eq_true c33
               have c33b1 : decide (a1 ≤ (wrap64 ((ji11) + 1))) = true := decide_eq_true c33
               by_cases c34 : (wrap64 ((ji11) + 1)) ≤ (a0.size : Int)
               ·rw [if_pos c34] at H
                have c34b0 := eq_true c34
                have c34b1 : decide ((wrap64 ((ji11) + 1)) ≤ (a0.size : Int)) = true := decide_eq_true c34
                by_cases c35 : t238.toList = (a0.extract (a1 : Int).toNat ((wrap64 ((ji11) + 1)) : Int).toNat).toList
                ·rw [if_pos c35] at H
                 have c35b0 : (t238.toList == (a0.extract (a1 : Int).toNat ((wrap64 ((ji11) + 1)) : Int).toNat).toList) = true := beq_iff_eq.mpr c35
                 have c35b1 : (t238.toList != (a0.extract (a1 : Int).toNat ((wrap64 ((ji11) + 1)) : Int).toNat).toList) = false := bne_eq_false_iff_eq.mpr c35
                 clear c35
                 simp only [Option.some.injEq, Prod.mk.injEq] at H
                 obtain ⟨rfl, rfl, rfl⟩ := H
                 have p14 : 0 ≤ ((ji11) : Int) := of_decide_eq_true (by first | (with_reducible assumption) | assumption)
                 have q14 : (ji11) < (a0.size : Int) := of_decide_eq_true (by first | (with_reducible assumption) | assumption)
                 have hx14 := bt_at a0 (ji11)
                 replace p14 := eq_true p14
                 replace q14 := eq_true q14
                 try go_wp2
                 have n0_ := Aside0.mk (blk_drew BK236.out)
                 have n1_ := Aside0.mk (below_drew1 HB.out)
                 clear BK236
                 clear HB
                 have BK236 := n0_
                 have HB := n1_
                 clear n0_ n1_
                 refine start_ (n := 10) (S := fun w' => True) (ds := []) #[false, false, false, false, false, false, false, false, false, false] (by kernel_rfl) rfl rfl trivial (fun hHeld => ?_); refine with_tabW boomerangref1_Get.tab15 boomerangref1_Get.bits15 (fun HT_ HW_ => ?_)
                 generalize wr.drew = w36 at BK236 HB hHeld ⊢
                 refine pure_ (i := 0) (N := some 53) (v := ?_) (a' := ?_) #[true, false, false, false, false, false, false, false, false, false] rfl rfl (any_of HT_.out (by kernel_rfl)) (fun _ _ _ h => h) (Or.inl ⟨by rfl, ?_⟩) ?_ ?_
                 rotate_left
                 ·intro w'
                  go_simp
                  with_reducible rfl
                 rotate_left
                 ·simp only [Act.put, List.setIfInBounds_toArray, List.set_cons_zero, List.set_cons_succ, i64_w, i32_w]
                  rfl
                 refine pure_ (i := 2) (N := some 55) (v := ?_) (a' := ?_) #[true, false, true, false, false, false, false, false, false, false] rfl rfl (any_of HT_.out (by kernel_rfl)) (fun _ _ _ h => h) (Or.inl ⟨by rfl, ?_⟩) ?_ ?_
                 rotate_left
                 ·intro w'
                  go_simp
                  with_reducible rfl
                 rotate_left
                 ·simp only [Act.put, List.setIfInBounds_toArray, List.set_cons_zero, List.set_cons_succ, i64_w, i32_w]
                  rfl
                 refine pure_ (i := 3) (N := some 56) (v := ?_) (a' := ?_) #[true, false, true, true, false, false, false, false, false, false] rfl rfl (any_of HT_.out (by kernel_rfl)) (fun _ _ _ h => h) (Or.inl ⟨by rfl, ?_⟩) ?_ ?_
                 rotate_left
                 ·intro w'
                  go_simp
                  with_reducible rfl
                 rotate_left
                 ·simp only [Act.put, List.setIfInBounds_toArray, List.set_cons_zero, List.set_cons_succ, i64_w, i32_w]
                  rfl
                 refine pure_ (i := 4) (N := some 57) (v := ?_) (a' := ?_) #[true, false, true, true, true, false, false, false, false, false] rfl rfl (any_of HT_.out (by kernel_rfl)) (fun _ _ _ h => h) (Or.inl ⟨by rfl, ?_⟩) ?_ ?_
                 rotate_left
                 ·intro w'
                  go_simp
                  with_reducible rfl
                 rotate_left
                 ·simp only [Act.put, List.setIfInBounds_toArray, List.set_cons_zero, List.set_cons_succ, i64_w, i32_w]
                  rfl
                 refine pure_ (i := 5) (N := some 58) (v := ?_) (a' := ?_) #[true, false, true, true, true, true, false, false, false, false] rfl rfl (any_of HT_.out (by kernel_rfl)) (fun _ _ _ h => h) (Or.inl ⟨by rfl, ?_⟩) ?_ ?_
                 rotate_left
                 ·intro w'
                  go_simp
                  with_reducible rfl
                 rotate_left
                 ·simp only [Act.put, List.setIfInBounds_toArray, List.set_cons_zero, List.set_cons_succ, i64_w, i32_w]
                  rfl
                 refine pure_ (i := 6) (N := some 59) (v := ?_) (a' := ?_) #[true, false, true, true, true, true, true, false, false, false] rfl rfl (any_of HT_.out (by kernel_rfl)) (fun _ _ _ h => h) (Or.inl ⟨by rfl, ?_⟩) ?_ ?_
                 rotate_left
                 ·intro w'
                  go_simp
                  with_reducible rfl
                 rotate_left
                 ·simp only [Act.put, List.setIfInBounds_toArray, List.set_cons_zero, List.set_cons_succ, i64_w, i32_w]
                  rfl
                 refine pure_ (i := 7) (N := some 60) (v := ?_) (a' := ?_) #[true, false, true, true, true, true, true, true, false, false] rfl rfl (any_of HT_.out (by kernel_rfl)) (fun _ _ _ h => h) (Or.inl ⟨by rfl, ?_⟩) ?_ ?_
                 rotate_left
                 ·intro w'
                  go_simp
                  with_reducible rfl
                 rotate_left
                 ·simp only [Act.put, List.setIfInBounds_toArray, List.set_cons_zero, List.set_cons_succ, i64_w, i32_w]
                  rfl
                 refine pure_ (i := 8) (N := some 61) (v := ?_) (a' := ?_) #[true, false, true, true, true, true, true, true, true, false] rfl rfl (any_of HT_.out (by kernel_rfl)) (fun _ _ _ h => h) (Or.inl ⟨by rfl, ?_⟩) ?_ ?_
                 rotate_left
                 ·intro w'
                  go_simp
                  with_reducible rfl
                 rotate_left
                 ·simp only [Act.put, List.setIfInBounds_toArray, List.set_cons_zero, List.set_cons_succ, i64_w, i32_w]
                  rfl
                 refine one_ (i := 1) (N := some 54) #[true, true, true, true, true, true, true, true, true, false] rfl rfl (one_of HT_.out (by kernel_rfl)) (by decide) (fun K hK => ?_)
                 refine goes_ Try.func27 (by kernel_rfl) rfl #[.int .i64 (wrap64 ((Go.bits .or .u64 x5_2 (ji17)) / 2))] (by rfl) rfl rfl (by (try simp only [List.map_toArray, List.map_cons, List.map_nil]); first | done | (simp only [hji17]; rfl) | rfl | (simp only [List.length_drop, List.length_take]; rfl)) ?_
                 with_reducible refine (boomerangref1_Put.calls k2 (wrap64 ((Go.bits .or .u64 x5_2 (ji17)) / 2)) t238 _ A31.out).mono ?_
                 rintro e w37 ⟨rfl, hb⟩
                 refine ⟨_, rfl, ?_⟩
                 have n0_ := Aside0.mk (blk_below (g := gb236) (o := .cells #[.int .i64 x237000_2, .int .i64 x237001_2, .int .i64 x237002_2] 60 (0, 0)) (by (with_reducible repeat (first | refine blk_drewN ?_ _ | refine blk_drew ?_ | refine blk_alloc ?_ _)); exact BK236.out) hb)
                 have n1_ := Aside0.mk (below_step (by repeat (first | (with_reducible first | exact HB.out | apply below_alloc | apply pw_below_drewN | apply below_drew1 | refine below_set ?_ GE236.out) | exact HB.out)) hb)
                 clear BK236
                 clear HB
                 have BK236 := n0_
                 have HB := n1_
                 clear n0_ n1_
                 (try clear hb)
                 (try clear hb2)
                 (try clear hk)
                 (try clear hi)
                 refine hK.out _ _ trivial (fun hHeld => ?_)
                 clear hK K
                 refine norm_ (a' := ?_) ?_ ?_
                 rotate_left
                 ·show Act.put _ (some 54) _ = _
                  simp only [Act.put, List.setIfInBounds_toArray, List.set_cons_zero, List.set_cons_succ, i64_w, i32_w]
                  rfl
                 refine pure_ (i := 9) (N := some 62) (v := ?_) (a' := ?_) #[true, true, true, true, true, true, true, true, true, true] rfl rfl (any_of HT_.out (by kernel_rfl)) (fun _ _ _ h => h) (Or.inl ⟨by rfl, ?_⟩) ?_ ?_
                 rotate_left
                 ·intro w'
                  go_simp
                  with_reducible rfl
                 rotate_left
                 ·simp only [Act.put, List.setIfInBounds_toArray, List.set_cons_zero, List.set_cons_succ, i64_w, i32_w]
                  rfl
                 refine done_ (done_of HT_.out (by kernel_rfl)) ?_
                 have hcz38_0 : w37.cell? ⟨gb236, 0, none⟩ = some (.int .i64 x237000_2) := (blk_cell BK236.out 0).trans rfl
                 have hcz38_1 : w37.cell? ⟨gb236, 1, none⟩ = some (.int .i64 x237001_2) := (blk_cell BK236.out 1).trans rfl
                 have hcz38_2 : w37.cell? ⟨gb236, 2, none⟩ = some (.int .i64 x237002_2) := (blk_cell BK236.out 2).trans rfl
                 have hfz38_0 := blk_frozen BK236.out 0
                 have hfz38_1 := blk_frozen BK236.out 1
                 have hfz38_2 := blk_frozen BK236.out 2
                 try go_wp2
                 refine bodyPost_ret (results_cell_row rfl _ _ gb236 60 #[.int .i64 (wrap64 ((Go.bits .or .u64 x5_2 (ji17)) / 2)), .int .i64 (wrap64 ((ji11) + 1)), .int .i64 0] (0, 0) _ rfl (by (with_reducible repeat (first | refine blk_drewN ?_ _ | refine blk_drew ?_ | refine blk_alloc ?_ _)); refine blk_put (cs := #[.int .i64 (wrap64 ((Go.bits .or .u64 x5_2 (ji17)) / 2)), .int .i64 (wrap64 ((ji11) + 1)), .int .i64 x237002_2]) ?_ 2 _ rfl; (with_reducible repeat (first | refine blk_drewN ?_ _ | refine blk_drew ?_ | refine blk_alloc ?_ _)); refine blk_put (cs := #[.int .i64 (wrap64 ((Go.bits .or .u64 x5_2 (ji17)) / 2)), .int .i64 x237001_2, .int .i64 x237002_2]) ?_ 1 _ rfl; (with_reducible repeat (first | refine blk_drewN ?_ _ | refine blk_drew ?_ | refine blk_alloc ?_ _)); refine blk_put (cs := #[.int .i64 x237000_2, .int .i64 x237001_2, .int .i64 x237002_2]) ?_ 0 _ rfl; (with_reducible repeat (first | refine blk_drewN ?_ _ | refine blk_drew ?_ | refine blk_alloc ?_ _)); exact BK236.out) Try.underlying60 rfl (by kernel_rfl)) rfl ?_
                 exact ⟨by first | rfl | (simp [errW_none, errW_some] <;> rfl) | (simp only [← hji11, ← hji15, ← hji17]; first | rfl | (simp [errW_none, errW_some] <;> rfl)) | (simp [*, errW_none, errW_some] <;> rfl), by repeat (first | (with_reducible first | exact HB.out | apply below_alloc | apply pw_below_drewN | apply below_drew1 | refine below_set ?_ GE236.out) | exact HB.out)⟩
                ·rw [if_neg c35] at H
                 have c35b0 : (t238.toList == (a0.extract (a1 : Int).toNat ((wrap64 ((ji11) + 1)) : Int).toNat).toList) = false := beq_eq_false_iff_ne.mpr c35
                 have c35b1 : (t238.toList != (a0.extract (a1 : Int).toNat ((wrap64 ((ji11) + 1)) : Int).toNat).toList) = true := bne_iff_ne.mpr c35
                 simp only [Option.some.injEq, Prod.mk.injEq] at H
                 obtain ⟨rfl, rfl, rfl⟩ := H
                 have p14 : 0 ≤ ((ji11) : Int) := of_decide_eq_true (by first | (with_reducible assumption) | assumption)
                 have q14 : (ji11) < (a0.size : Int) := of_decide_eq_true (by first | (with_reducible assumption) | assumption)
                 have hx14 := bt_at a0 (ji11)
                 replace p14 := eq_true p14
                 replace q14 := eq_true q14
                 try go_wp2
                 have n0_ := Aside0.mk (blk_drew BK236.out)
                 have n1_ := Aside0.mk (below_drew1 HB.out)
                 clear BK236
                 clear HB
                 have BK236 := n0_
                 have HB := n1_
                 clear n0_ n1_
                 refine start_ (n := 10) (S := fun w' => True) (ds := []) #[false, false, false, false, false, false, false, false, false, false] (by kernel_rfl) rfl rfl trivial (fun hHeld => ?_); refine with_tabW boomerangref1_Get.tab15 boomerangref1_Get.bits15 (fun HT_ HW_ => ?_)
                 generalize wr.drew = w39 at BK236 HB hHeld ⊢
                 refine pure_ (i := 0) (N := some 53) (v := ?_) (a' := ?_) #[true, false, false, false, false, false, false, false, false, false] rfl rfl (any_of HT_.out (by kernel_rfl)) (fun _ _ _ h => h) (Or.inl ⟨by rfl, ?_⟩) ?_ ?_
                 rotate_left
                 ·intro w'
                  go_simp
                  with_reducible rfl
                 rotate_left
                 ·simp only [Act.put, List.setIfInBounds_toArray, List.set_cons_zero, List.set_cons_succ, i64_w, i32_w]
                  rfl
                 refine pure_ (i := 2) (N := some 55) (v := ?_) (a' := ?_) #[true, false, true, false, false, false, false, false, false, false] rfl rfl (any_of HT_.out (by kernel_rfl)) (fun _ _ _ h => h) (Or.inl ⟨by rfl, ?_⟩) ?_ ?_
                 rotate_left
                 ·intro w'
                  go_simp
                  with_reducible rfl
                 rotate_left
                 ·simp only [Act.put, List.setIfInBounds_toArray, List.set_cons_zero, List.set_cons_succ, i64_w, i32_w]
                  rfl
                 refine pure_ (i := 3) (N := some 56) (v := ?_) (a' := ?_) #[true, false, true, true, false, false, false, false, false, false] rfl rfl (any_of HT_.out (by kernel_rfl)) (fun _ _ _ h => h) (Or.inl ⟨by rfl, ?_⟩) ?_ ?_
                 rotate_left
                 ·intro w'
                  go_simp
                  with_reducible rfl
                 rotate_left
                 ·simp only [Act.put, List.setIfInBounds_toArray, List.set_cons_zero, List.set_cons_succ, i64_w, i32_w]
                  rfl
                 refine pure_ (i := 4) (N := some 57) (v := ?_) (a' := ?_) #[true, false, true, true, true, false, false, false, false, false] rfl rfl (any_of HT_.out (by kernel_rfl)) (fun _ _ _ h => h) (Or.inl ⟨by rfl, ?_⟩) ?_ ?_
                 rotate_left
                 ·intro w'
                  go_simp
                  with_reducible rfl
                 rotate_left
                 ·simp only [Act.put, List.setIfInBounds_toArray, List.set_cons_zero, List.set_cons_succ, i64_w, i32_w]
                  rfl
                 refine pure_ (i := 5) (N := some 58) (v := ?_) (a' := ?_) #[true, false, true, true, true, true, false, false, false, false] rfl rfl (any_of HT_.out (by kernel_rfl)) (fun _ _ _ h => h) (Or.inl ⟨by rfl, ?_⟩) ?_ ?_
                 rotate_left
                 ·intro w'
                  go_simp
                  with_reducible rfl
                 rotate_left
                 ·simp only [Act.put, List.setIfInBounds_toArray, List.set_cons_zero, List.set_cons_succ, i64_w, i32_w]
                  rfl
                 refine pure_ (i := 6) (N := some 59) (v := ?_) (a' := ?_) #[true, false, true, true, true, true, true, false, false, false] rfl rfl (any_of HT_.out (by kernel_rfl)) (fun _ _ _ h => h) (Or.inl ⟨by rfl, ?_⟩) ?_ ?_
                 rotate_left
                 ·intro w'
                  go_simp
                  with_reducible rfl
                 rotate_left
                 ·simp only [Act.put, List.setIfInBounds_toArray, List.set_cons_zero, List.set_cons_succ, i64_w, i32_w]
                  rfl
                 refine pure_ (i := 7) (N := some 60) (v := ?_) (a' := ?_) #[true, false, true, true, true, true, true, true, false, false] rfl rfl (any_of HT_.out (by kernel_rfl)) (fun _ _ _ h => h) (Or.inl ⟨by rfl, ?_⟩) ?_ ?_
                 rotate_left
                 ·intro w'
                  go_simp
                  with_reducible rfl
                 rotate_left
                 ·simp only [Act.put, List.setIfInBounds_toArray, List.set_cons_zero, List.set_cons_succ, i64_w, i32_w]
                  rfl
                 refine pure_ (i := 8) (N := some 61) (v := ?_) (a' := ?_) #[true, false, true, true, true, true, true, true, true, false] rfl rfl (any_of HT_.out (by kernel_rfl)) (fun _ _ _ h => h) (Or.inl ⟨by rfl, ?_⟩) ?_ ?_
                 rotate_left
                 ·intro w'
                  go_simp
                  with_reducible rfl
                 rotate_left
                 ·simp only [Act.put, List.setIfInBounds_toArray, List.set_cons_zero, List.set_cons_succ, i64_w, i32_w]
                  rfl
                 refine one_ (i := 1) (N := some 54) #[true, true, true, true, true, true, true, true, true, false] rfl rfl (one_of HT_.out (by kernel_rfl)) (by decide) (fun K hK => ?_)
                 refine goes_ Try.func27 (by kernel_rfl) rfl #[.int .i64 (wrap64 ((Go.bits .or .u64 x5_2 (ji17)) / 2))] (by rfl) rfl rfl (by (try simp only [List.map_toArray, List.map_cons, List.map_nil]); first | done | (simp only [hji17]; rfl) | rfl | (simp only [List.length_drop, List.length_take]; rfl)) ?_
                 with_reducible refine (boomerangref1_Put.calls k2 (wrap64 ((Go.bits .or .u64 x5_2 (ji17)) / 2)) t238 _ A31.out).mono ?_
                 rintro e w40 ⟨rfl, hb⟩
                 refine ⟨_, rfl, ?_⟩
                 have n0_ := Aside0.mk (blk_below (g := gb236) (o := .cells #[.int .i64 x237000_2, .int .i64 x237001_2, .int .i64 x237002_2] 60 (0, 0)) (by (with_reducible repeat (first | refine blk_drewN ?_ _ | refine blk_drew ?_ | refine blk_alloc ?_ _)); exact BK236.out) hb)
                 have n1_ := Aside0.mk (below_step (by repeat (first | (with_reducible first | exact HB.out | apply below_alloc | apply pw_below_drewN | apply below_drew1 | refine below_set ?_ GE236.out) | exact HB.out)) hb)
                 clear BK236
                 clear HB
                 have BK236 := n0_
                 have HB := n1_
                 clear n0_ n1_
                 (try clear hb)
                 (try clear hb2)
                 (try clear hk)
                 (try clear hi)
                 refine hK.out _ _ trivial (fun hHeld => ?_)
                 clear hK K
                 refine norm_ (a' := ?_) ?_ ?_
                 rotate_left
                 ·show Act.put _ (some 54) _ = _
                  simp only [Act.put, List.setIfInBounds_toArray, List.set_cons_zero, List.set_cons_succ, i64_w, i32_w]
                  rfl
                 refine pure_ (i := 9) (N := some 62) (v := ?_) (a' := ?_) #[true, true, true, true, true, true, true, true, true, true] rfl rfl (any_of HT_.out (by kernel_rfl)) (fun _ _ _ h => h) (Or.inl ⟨by rfl, ?_⟩) ?_ ?_
                 rotate_left
                 ·intro w'
                  go_simp
                  with_reducible rfl
                 rotate_left
                 ·simp only [Act.put, List.setIfInBounds_toArray, List.set_cons_zero, List.set_cons_succ, i64_w, i32_w]
                  rfl
                 refine done_ (done_of HT_.out (by kernel_rfl)) ?_
                 have hcz41_0 : w40.cell? ⟨gb236, 0, none⟩ = some (.int .i64 x237000_2) := (blk_cell BK236.out 0).trans rfl
                 have hcz41_1 : w40.cell? ⟨gb236, 1, none⟩ = some (.int .i64 x237001_2) := (blk_cell BK236.out 1).trans rfl
                 have hcz41_2 : w40.cell? ⟨gb236, 2, none⟩ = some (.int .i64 x237002_2) := (blk_cell BK236.out 2).trans rfl
                 have hfz41_0 := blk_frozen BK236.out 0
                 have hfz41_1 := blk_frozen BK236.out 1
                 have hfz41_2 := blk_frozen BK236.out 2
                 try go_wp2
                 refine bodyPost_ret (results_cell_row rfl _ _ gb236 60 #[.int .i64 0, .int .i64 0, .int .i64 4] (0, 0) _ rfl (by (with_reducible repeat (first | refine blk_drewN ?_ _ | refine blk_drew ?_ | refine blk_alloc ?_ _)); refine blk_put (cs := #[.int .i64 0, .int .i64 0, .int .i64 x237002_2]) ?_ 2 _ rfl; (with_reducible repeat (first | refine blk_drewN ?_ _ | refine blk_drew ?_ | refine blk_alloc ?_ _)); refine blk_put (cs := #[.int .i64 0, .int .i64 x237001_2, .int .i64 x237002_2]) ?_ 1 _ rfl; (with_reducible repeat (first | refine blk_drewN ?_ _ | refine blk_drew ?_ | refine blk_alloc ?_ _)); refine blk_put (cs := #[.int .i64 x237000_2, .int .i64 x237001_2, .int .i64 x237002_2]) ?_ 0 _ rfl; (with_reducible repeat (first | refine blk_drewN ?_ _ | refine blk_drew ?_ | refine blk_alloc ?_ _)); exact BK236.out) Try.underlying60 rfl (by kernel_rfl)) rfl ?_
                 exact ⟨by first | rfl | (simp [errW_none, errW_some] <;> rfl) | (simp only [← hji11, ← hji15, ← hji17]; first | rfl | (simp [errW_none, errW_some] <;> rfl)) | (simp [*, errW_none, errW_some] <;> rfl), by repeat (first | (with_reducible first | exact HB.out | apply below_alloc | apply pw_below_drewN | apply below_drew1 | refine below_set ?_ GE236.out) | exact HB.out)⟩
               ·rw [if_neg c34] at H
                exact absurd H (by simp)
              ·rw [if_neg c33] at H
               exact absurd H (by simp)
             ·rw [if_neg c32] at H
              exact absurd H (by simp)
           ·rw [if_neg c18] at H
            have c18b0 : decide ((bt a0 (ji11)) < 128) = false := decide_eq_false c18
            clear c18
            have H' := Aside0.mk H
            clear H
            have p14 : 0 ≤ ((ji11) : Int) := of_decide_eq_true (by first | (with_reducible assumption) | assumption)
            have q14 : (ji11) < (a0.size : Int) := of_decide_eq_true (by first | (with_reducible assumption) | assumption)
            have hx14 := bt_at a0 (ji11)
            replace p14 := eq_true p14
            replace q14 := eq_true q14
            go_wp2
            go_roundg k2
            case measure => have := HJ2.out; have := HK2.out; omega
            case rel => exact ⟨(Go.bits .or .u64 x5_2 (ji17)), (wrap64 (x6_2 + 1)), (x237000_2), (x237001_2), (x237002_2), (by first | rfl | (simp; done) | (simp only [← hji17] <;> (first | rfl | (simp; done) | (simp [*]; done))) | (simp [*]; done)), (by first | rfl | (simp; done) | (simp [*]; done)), H', ⟨by have := HJ2.out; have := HK2.out; omega⟩, ⟨by (with_reducible repeat (first | refine blk_drewN ?_ _ | refine blk_drew ?_ | refine blk_alloc ?_ _)); exact BK236.out⟩, ⟨by repeat (first | (with_reducible first | exact HB.out | apply below_alloc | apply pw_below_drewN | apply below_drew1 | refine below_set ?_ GE236.out) | exact HB.out)⟩⟩
          ·rw [if_neg c16] at H
           exact absurd H (by simp)
         ·rw [if_neg c13] at H
          exact absurd H (by simp)
        ·rw [if_neg c12] at H
         exact absurd H (by simp)
      ·rw [if_neg c8] at H
       have c8b0 : decide (x6_2 < 10) = false := decide_eq_false c8
       clear c8
       simp only [Option.some.injEq, Prod.mk.injEq] at H
       obtain ⟨rfl, rfl, rfl⟩ := H
       have hcz42_0 : wr.cell? ⟨gb236, 0, none⟩ = some (.int .i64 x237000_2) := (blk_cell BK236.out 0).trans rfl
       have hcz42_1 : wr.cell? ⟨gb236, 1, none⟩ = some (.int .i64 x237001_2) := (blk_cell BK236.out 1).trans rfl
       have hcz42_2 : wr.cell? ⟨gb236, 2, none⟩ = some (.int .i64 x237002_2) := (blk_cell BK236.out 2).trans rfl
       have hfz42_0 := blk_frozen BK236.out 0
       have hfz42_1 := blk_frozen BK236.out 1
       have hfz42_2 := blk_frozen BK236.out 2
       go_wp2
       refine bodyPost_ret (results_cell_row rfl _ _ gb236 60 #[.int .i64 0, .int .i64 0, .int .i64 4] (0, 0) _ rfl (by (with_reducible repeat (first | refine blk_drewN ?_ _ | refine blk_drew ?_ | refine blk_alloc ?_ _)); refine blk_put (cs := #[.int .i64 0, .int .i64 0, .int .i64 x237002_2]) ?_ 2 _ rfl; (with_reducible repeat (first | refine blk_drewN ?_ _ | refine blk_drew ?_ | refine blk_alloc ?_ _)); refine blk_put (cs := #[.int .i64 0, .int .i64 x237001_2, .int .i64 x237002_2]) ?_ 1 _ rfl; (with_reducible repeat (first | refine blk_drewN ?_ _ | refine blk_drew ?_ | refine blk_alloc ?_ _)); refine blk_put (cs := #[.int .i64 x237000_2, .int .i64 x237001_2, .int .i64 x237002_2]) ?_ 0 _ rfl; (with_reducible repeat (first | refine blk_drewN ?_ _ | refine blk_drew ?_ | refine blk_alloc ?_ _)); exact BK236.out) Try.underlying60 rfl (by kernel_rfl)) rfl ?_
       exact ⟨by first | rfl | (simp [errW_none, errW_some] <;> rfl) | (simp [*, errW_none, errW_some] <;> rfl), by repeat (first | (with_reducible first | exact HB.out | apply below_alloc | apply pw_below_drewN | apply below_drew1 | refine below_set ?_ GE236.out) | exact HB.out)⟩

end Go.Proofs.Ythhigjfkekdmiaa.M
