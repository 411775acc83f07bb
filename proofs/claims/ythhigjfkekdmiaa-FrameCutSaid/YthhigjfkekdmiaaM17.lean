-- Written by a program of this session (wip/tools/mine.sh), out of the translation and hand-given contracts.
import Derived.Test.YthhigjfkekdmiaaM0
import Derived.Test.YthhigjfkekdmiaaM7
import Derived.Test.YthhigjfkekdmiaaM16
namespace Go.Proofs.Ythhigjfkekdmiaa.M
open Go.RowKit Go.Proofs.YthhigjfkekdmiaaW.PrintWords Go.Proofs.YthhigjfkekdmiaaW.PrintLast Go.Proofs.YthhigjfkekdmiaaW.PrintMore
attribute [local go_sem] max2_int min2_int max_two min_two max_three min_three max_four min_four   -- for this text's walks alone
set_option linter.unusedVariables false
set_option linter.unusedSimpArgs false

/-! ### boomerangref1_AllFrames: function 24 -/
mutual
def boomerangref1_AllFrames.l0 : Nat → ByteArray → Int → List ByteArray → List Int → Int → Option (List ByteArray × List Int × Int)
 | 0, _, _, _, _, _ => none
 | k + 1, x0, x4, x241000, x241001, x241002 => if x4 < (x0.size : Int) then ((boomerangref1_Get.f k x0 x4).bind fun bt241 => (if bt241.2.2 = 0 then (if bt241.1 < 0 then (boomerangref1_AllFrames.j1 k x0 true x241000 x241001 x241002 bt241.1 bt241.2.1 bt241.2.2) else (boomerangref1_AllFrames.j1 k x0 (decide (bt241.1 > 4096)) x241000 x241001 x241002 bt241.1 bt241.2.1 bt241.2.2)) else (boomerangref1_AllFrames.j2 k x0 x241000 x241001 bt241.2.2 bt241.1 bt241.2.1 bt241.2.2))) else (some (x241000, x241001, x241002))
def boomerangref1_AllFrames.j2 : Nat → ByteArray → List ByteArray → List Int → Int → Int → Int → Int → Option (List ByteArray × List Int × Int)
 | 0, _, _, _, _, _, _, _ => none
 | k + 1, x0, x241000, x241001, x241002, x245000, x245001, x245002 => if x241002 = 0 then (if 0 ≤ x245001 then (if x245001 ≤ (wrap64 ((wrap64 (x245001 + x245000)) + 4)) then (if (wrap64 ((wrap64 (x245001 + x245000)) + 4)) ≤ (x0.size : Int) then ((boomerangref1_GetSum.f k (x0.extract (x245001 : Int).toNat ((wrap64 ((wrap64 (x245001 + x245000)) + 4)) : Int).toNat)).bind fun bt245 => (if bt245.2.2 = 0 then (if x241000.length < 8796093022208 then (if x241001.length < 17592186044416 then (boomerangref1_AllFrames.l0 k x0 (wrap64 ((wrap64 (x245001 + x245000)) + 4)) (x241000 ++ [bt245.1]) (x241001 ++ [wrap64 ((wrap64 (x245001 + x245000)) + 4)]) x241002) else (none)) else (none)) else (some (x241000, x241001, bt245.2.2)))) else (none)) else (none)) else (none)) else (some (x241000, x241001, x241002))
def boomerangref1_AllFrames.j1 : Nat → ByteArray → Bool → List ByteArray → List Int → Int → Int → Int → Int → Option (List ByteArray × List Int × Int)
 | 0, _, _, _, _, _, _, _, _ => none
 | k + 1, x0, x21, x241000, x241001, x241002, x245000, x245001, x245002 => if x21 = true then (boomerangref1_AllFrames.j2 k x0 x241000 x241001 4 x245000 x245001 x245002) else (if (wrap64 ((x0.size : Int) - x245001)) < (wrap64 (x245000 + 4)) then (boomerangref1_AllFrames.j2 k x0 x241000 x241001 3 x245000 x245001 x245002) else (boomerangref1_AllFrames.j2 k x0 x241000 x241001 x241002 x245000 x245001 x245002))
end
def boomerangref1_AllFrames.f (k : Nat) (a0 : ByteArray) : Option (List ByteArray × List Int × Int) := boomerangref1_AllFrames.l0 k a0 0 ([] : List ByteArray) ([] : List Int) 0
theorem boomerangref1_AllFrames.mono_l : ∀ k, (∀ y0 y1 y2 y3 y4, LeO (boomerangref1_AllFrames.l0 k y0 y1 y2 y3 y4) (boomerangref1_AllFrames.l0 (k + 1) y0 y1 y2 y3 y4)) ∧ (∀ y0 y1 y2 y3 y4 y5 y6, LeO (boomerangref1_AllFrames.j2 k y0 y1 y2 y3 y4 y5 y6) (boomerangref1_AllFrames.j2 (k + 1) y0 y1 y2 y3 y4 y5 y6)) ∧ (∀ y0 y1 y2 y3 y4 y5 y6 y7, LeO (boomerangref1_AllFrames.j1 k y0 y1 y2 y3 y4 y5 y6 y7) (boomerangref1_AllFrames.j1 (k + 1) y0 y1 y2 y3 y4 y5 y6 y7))
 | 0 => ⟨fun _ _ _ _ _ r h => by simp [boomerangref1_AllFrames.l0] at h, fun _ _ _ _ _ _ _ r h => by simp [boomerangref1_AllFrames.j2] at h, fun _ _ _ _ _ _ _ _ r h => by simp [boomerangref1_AllFrames.j1] at h⟩
 | k + 1 => by
  obtain ⟨ih0, ih1, ih2⟩ := boomerangref1_AllFrames.mono_l k
  refine ⟨?_, ?_, ?_⟩
  ·intro y0 y1 y2 y3 y4
   unfold boomerangref1_AllFrames.l0
   repeat' first
   | (with_reducible exact ih0 _ _ _ _ _)
   | (with_reducible exact ih1 _ _ _ _ _ _ _)
   | (with_reducible exact ih2 _ _ _ _ _ _ _ _)
   | (with_reducible exact boomerangref1_Get.mono _ _ _)
   | (with_reducible exact boomerangref1_GetSum.mono _ _)
   | (with_reducible exact LeO.refl _)
   | (with_reducible exact LeO.none _)
   | (with_reducible refine LeO.ite ?_ ?_)
   | (with_reducible refine LeO.bind ?_ (fun _ => ?_))
   | exact ih0 _ _ _ _ _
   | exact ih1 _ _ _ _ _ _ _
   | exact ih2 _ _ _ _ _ _ _ _
   | exact boomerangref1_Get.mono _ _ _
   | exact boomerangref1_GetSum.mono _ _
   | exact LeO.none _
   | refine LeO.ite ?_ ?_
   | refine LeO.bind ?_ (fun _ => ?_)
  ·intro y0 y1 y2 y3 y4 y5 y6
   unfold boomerangref1_AllFrames.j2
   repeat' first
   | (with_reducible exact ih0 _ _ _ _ _)
   | (with_reducible exact ih1 _ _ _ _ _ _ _)
   | (with_reducible exact ih2 _ _ _ _ _ _ _ _)
   | (with_reducible exact boomerangref1_Get.mono _ _ _)
   | (with_reducible exact boomerangref1_GetSum.mono _ _)
   | (with_reducible exact LeO.refl _)
   | (with_reducible exact LeO.none _)
   | (with_reducible refine LeO.ite ?_ ?_)
   | (with_reducible refine LeO.bind ?_ (fun _ => ?_))
   | exact ih0 _ _ _ _ _
   | exact ih1 _ _ _ _ _ _ _
   | exact ih2 _ _ _ _ _ _ _ _
   | exact boomerangref1_Get.mono _ _ _
   | exact boomerangref1_GetSum.mono _ _
   | exact LeO.none _
   | refine LeO.ite ?_ ?_
   | refine LeO.bind ?_ (fun _ => ?_)
  ·intro y0 y1 y2 y3 y4 y5 y6 y7
   unfold boomerangref1_AllFrames.j1
   repeat' first
   | (with_reducible exact ih0 _ _ _ _ _)
   | (with_reducible exact ih1 _ _ _ _ _ _ _)
   | (with_reducible exact ih2 _ _ _ _ _ _ _ _)
   | (with_reducible exact boomerangref1_Get.mono _ _ _)
   | (with_reducible exact boomerangref1_GetSum.mono _ _)
   | (with_reducible exact LeO.refl _)
   | (with_reducible exact LeO.none _)
   | (with_reducible refine LeO.ite ?_ ?_)
   | (with_reducible refine LeO.bind ?_ (fun _ => ?_))
   | exact ih0 _ _ _ _ _
   | exact ih1 _ _ _ _ _ _ _
   | exact ih2 _ _ _ _ _ _ _ _
   | exact boomerangref1_Get.mono _ _ _
   | exact boomerangref1_GetSum.mono _ _
   | exact LeO.none _
   | refine LeO.ite ?_ ?_
   | refine LeO.bind ?_ (fun _ => ?_)
theorem boomerangref1_AllFrames.mono : ∀ a0 k, LeO (boomerangref1_AllFrames.f k a0) (boomerangref1_AllFrames.f (k + 1) a0) := by
 intro a0 k
 obtain ⟨ih0, ih1, ih2⟩ := boomerangref1_AllFrames.mono_l k
 unfold boomerangref1_AllFrames.f
 repeat' first
   | (with_reducible exact ih0 _ _ _ _ _)
   | (with_reducible exact ih1 _ _ _ _ _ _ _)
   | (with_reducible exact ih2 _ _ _ _ _ _ _ _)
   | (with_reducible exact boomerangref1_Get.mono _ _ _)
   | (with_reducible exact boomerangref1_GetSum.mono _ _)
   | (with_reducible exact LeO.refl _)
   | (with_reducible exact LeO.none _)
   | (with_reducible refine LeO.ite ?_ ?_)
   | (with_reducible refine LeO.bind ?_ (fun _ => ?_))
   | exact ih0 _ _ _ _ _
   | exact ih1 _ _ _ _ _ _ _
   | exact ih2 _ _ _ _ _ _ _ _
   | exact boomerangref1_Get.mono _ _ _
   | exact boomerangref1_GetSum.mono _ _
   | exact LeO.none _
   | refine LeO.ite ?_ ?_
   | refine LeO.bind ?_ (fun _ => ?_)
set_option maxHeartbeats 8000000 in
set_option maxRecDepth 100000 in
theorem boomerangref1_AllFrames.calls (k : Nat) (a0 : ByteArray) (r1 : List ByteArray) (r2 : List Int) (r3 : Int) (w : World) (h : boomerangref1_AllFrames.f k a0 = some (r1, r2, r3)) :
  Calls Try.prog 24 #[.string a0] w fun e w' => ∃ v0_ v1_ : Value, e = .returned (.agg #[v0_, v1_, .int .i64 r3]) ∧ Kd.R Kd.string 9 w' w.heap.size (fun _ => True) v0_ r1 ∧ Kd.R (Kd.int .i64) 3 w' w.heap.size (fun _ => True) v1_ r2 ∧ Below w.heap.size w w' := by
 have hu44 := Try.underlying44
 have hu60 := Try.underlying60
 have hu33 := Try.underlying33
 have HB := Aside0.mk (Below.refl w.heap.size w)
 have H : (boomerangref1_AllFrames.l0 k a0 0 ([] : List ByteArray) ([] : List Int) 0) = some (r1, r2, r3) := h
 clear h
 have H' := Aside0.mk H
 clear H
 go_enter Try.func24, Try.ntmps24
 go_wp2_with (first | ((with_reducible refine gate_dst (N := 2) rfl ?_); refine box_event ?hg (N := 2) ?hd (cs := #[.slice none 0 0, .slice none 0 0, .int .i64 0]) (t := 44) ?hr ?_; (case hd => rfl); (case hg => rfl); (case hr => first | (go_simp; done) | (go_simp; rfl)); intro gb239 hg w2 hbox hb; have n0_ := Aside0.mk (below_step (by repeat (first | (with_reducible first | exact HB.out | apply below_alloc | apply pw_below_drewN | apply below_drew1) | exact HB.out)) hb); have n1_ := Aside0.mk (hbox); have n2_ := Aside0.mk ((by rw [hg]; exact (below_size (by repeat (first | (with_reducible first | exact HB.out | apply below_alloc | apply pw_below_drewN | apply below_drew1) | exact HB.out))) : w.heap.size ≤ gb239)); have n3_ := Aside0.mk ((by rw [hg]; exact (below_size (by repeat (first | (with_reducible first | exact HB.out | apply below_alloc | apply pw_below_drewN | apply below_drew1) | exact HB.out))) : w.heap.size ≤ gb239)); clear HB; have HB := n0_; have BK239 := n1_; have GW239 := n2_; have GE239 := n3_; clear n0_ n1_ n2_ n3_; clear hb hbox hg) | ((with_reducible refine gate_dst (N := 3) rfl ?_); refine box_event ?hg (N := 3) ?hd (cs := #[.slice none 0 0, .slice none 0 0, .int .i64 0]) (t := 44) ?hr ?_; (case hd => rfl); (case hg => rfl); (case hr => first | (go_simp; done) | (go_simp; rfl)); intro gb240 hg w3 hbox hb; have n0_ := Aside0.mk (blk_below (g := gb239) (o := .cells #[.slice none 0 0, .slice none 0 0, .int .i64 0] 44 (0, 0)) (by (with_reducible repeat (first | refine blk_drewN ?_ _ | refine blk_drew ?_ | refine blk_alloc ?_ _)); exact BK239.out) hb); have n1_ := Aside0.mk (below_step (by repeat (first | (with_reducible first | exact HB.out | apply below_alloc | apply pw_below_drewN | apply below_drew1 | refine below_set ?_ GE239.out) | exact HB.out)) hb); have n2_ := Aside0.mk (hbox); have n3_ := Aside0.mk ((by rw [hg]; exact (below_size (by repeat (first | (with_reducible first | exact HB.out | apply below_alloc | apply pw_below_drewN | apply below_drew1 | refine below_set ?_ GE239.out) | exact HB.out))) : w.heap.size ≤ gb240)); have n4_ := Aside0.mk ((by rw [hg]; exact (below_size (by repeat (first | (with_reducible first | exact HB.out | apply below_alloc | apply pw_below_drewN | apply below_drew1 | refine below_set ?_ GE239.out) | exact HB.out))) : w.heap.size ≤ gb240)); have n5_ := Aside0.mk ((by rw [hg]; exact Nat.ne_of_lt (blk_lt (g := gb239) (o := .cells #[.slice none 0 0, .slice none 0 0, .int .i64 0] 44 (0, 0)) (by (with_reducible repeat (first | refine blk_drewN ?_ _ | refine blk_drew ?_ | refine blk_alloc ?_ _)); exact BK239.out)) : gb239 ≠ gb240)); have n6_ := Aside0.mk ((by rw [hg]; exact Nat.ne_of_gt (blk_lt (g := gb239) (o := .cells #[.slice none 0 0, .slice none 0 0, .int .i64 0] 44 (0, 0)) (by (with_reducible repeat (first | refine blk_drewN ?_ _ | refine blk_drew ?_ | refine blk_alloc ?_ _)); exact BK239.out)) : gb240 ≠ gb239)); clear BK239; clear HB; have BK239 := n0_; have HB := n1_; have BK240 := n2_; have GW240 := n3_; have GE240 := n4_; have NB239_240 := n5_; have NB240_239 := n6_; clear n0_ n1_ n2_ n3_ n4_ n5_ n6_; clear hb hbox hg))
 go_loopg [4] k (fun kq v4 w' => ∃ (x4_1 : Int) (x240002_1 : Int) (x241000_1 : List ByteArray) (x241001_1 : List Int) (x241002_1 : Int) (u241000 : Value) (u241001 : Value), v4 = .int .i64 x4_1 ∧ Aside0 (boomerangref1_AllFrames.l0 kq a0 x4_1 x241000_1 x241001_1 x241002_1 = some (r1, r2, r3)) ∧ Aside0 (kq ≤ k) ∧ Aside0 (Kd.R Kd.string 9 w' w.heap.size (fun _ => True) u241000 x241000_1) ∧ Aside0 (Kd.R (Kd.int .i64) 3 w' w.heap.size (fun _ => True) u241001 x241001_1) ∧ Aside0 (w'.heap[gb239]? = some (.cells #[(.slice none 0 0), (.slice none 0 0), .int .i64 x240002_1] 44 (0, 0))) ∧ Aside0 (w'.heap[gb240]? = some (.cells #[u241000, u241001, .int .i64 x241002_1] 44 (0, 0))) ∧ Aside0 (Below w.heap.size w w'))
 case atStart => exact ⟨(0), (0), (([] : List ByteArray)), (([] : List Int)), (0), (.slice none 0 0), (.slice none 0 0), (by first | rfl | (simp; done) | (simp [*]; done)), H', ⟨Nat.le_refl _⟩, ⟨by first | exact Kd.R_nil _ _ _ _ _ | exact Kd.N_nil _ _ _ _ _ | exact Kd.V_nil _ _ _ _ _ | exact Kd.Q_nil _ _ _ _ _ | exact Kd.S_nil _ _ _ _ _⟩, ⟨by first | exact Kd.R_nil _ _ _ _ _ | exact Kd.N_nil _ _ _ _ _ | exact Kd.V_nil _ _ _ _ _ | exact Kd.Q_nil _ _ _ _ _ | exact Kd.S_nil _ _ _ _ _⟩, ⟨by (with_reducible repeat (first | refine blk_drewN ?_ _ | refine blk_drew ?_ | refine blk_alloc ?_ _)); exact BK239.out⟩, ⟨by (with_reducible repeat (first | refine blk_drewN ?_ _ | refine blk_drew ?_ | refine blk_alloc ?_ _)); exact BK240.out⟩, ⟨by repeat (first | (with_reducible first | exact HB.out | apply below_alloc | apply pw_below_drewN | apply below_drew1 | refine below_set ?_ GE239.out | refine below_set ?_ GE240.out) | exact HB.out)⟩⟩
 case round =>
  clear H'
  try clear c2
  try clear p2
  obtain ⟨x4_1, x240002_1, x241000_1, x241001_1, x241002_1, u241000, u241001, rfl, HA, HK1, HO_241000, HO_241001, BK239, BK240, HB⟩ := hrel
  cases gk with
  | zero => exact absurd HA.out (by simp [boomerangref1_AllFrames.l0])
  | succ k1 =>
   have H := HA.out
   clear HA
   simp only [boomerangref1_AllFrames.l0] at H
   by_cases c4 : x4_1 < (a0.size : Int)
   ·rw [if_pos c4] at H
    have c4b0 : decide (x4_1 < (a0.size : Int)) = true := decide_eq_true c4
    clear c4
    replace H := Option.bind_eq_some_iff.mp H
    obtain ⟨⟨t241, t242, t243⟩, A50, H⟩ := H
    replace H : (if t243 = 0 then (if t241 < 0 then (boomerangref1_AllFrames.j1 k1 a0 true x241000_1 x241001_1 x241002_1 t241 t242 t243) else (boomerangref1_AllFrames.j1 k1 a0 (decide (t241 > 4096)) x241000_1 x241001_1 x241002_1 t241 t242 t243)) else (boomerangref1_AllFrames.j2 k1 a0 x241000_1 x241001_1 t243 t241 t242 t243)) = some (r1, r2, r3) := H
    have A5 := Aside0.mk A50
    clear A50
    have HC6 := Aside0.mk H
    clear H
    go_upto_block 2 with (first | ((with_reducible refine gate_callee (f := 31) rfl ?_); refine goesL_ (some 13) rfl rfl Try.func31 (by kernel_rfl) rfl #[.string a0, .int .i64 x4_1] rfl (by (try simp only [List.map_toArray, List.map_cons, List.map_nil]); first | done | rfl | (simp only [List.length_drop, List.length_take]; rfl)) ?_; (with_reducible refine (boomerangref1_Get.calls k1 a0 x4_1 t241 t242 t243 _ A5.out).mono ?_); rintro e w7 ⟨rfl, hb⟩; refine ⟨_, rfl, ?_⟩; have n0_ := Aside0.mk (Kd.R_below (by (with_reducible repeat (first | apply Kd.R_alloc | apply Kd.R_drewN | apply Kd.R_drew)); exact HO_241000.out) hb); have n1_ := Aside0.mk (Kd.R_below (by (with_reducible repeat (first | apply Kd.R_alloc | apply Kd.R_drewN | apply Kd.R_drew)); exact HO_241001.out) hb); have n2_ := Aside0.mk (blk_below (g := gb239) (o := .cells #[.slice none 0 0, .slice none 0 0, .int .i64 x240002_1] 44 (0, 0)) (by (with_reducible repeat (first | refine blk_drewN ?_ _ | refine blk_drew ?_ | refine blk_alloc ?_ _)); exact BK239.out) hb); have n3_ := Aside0.mk (blk_below (g := gb240) (o := .cells #[u241000, u241001, .int .i64 x241002_1] 44 (0, 0)) (by (with_reducible repeat (first | refine blk_drewN ?_ _ | refine blk_drew ?_ | refine blk_alloc ?_ _)); exact BK240.out) hb); have n4_ := Aside0.mk (below_step (by repeat (first | (with_reducible first | exact HB.out | apply below_alloc | apply pw_below_drewN | apply below_drew1 | refine below_set ?_ GE239.out | refine below_set ?_ GE240.out) | exact HB.out)) hb); clear HO_241000; clear HO_241001; clear BK239; clear BK240; clear HB; have HO_241000 := n0_; have HO_241001 := n1_; have BK239 := n2_; have BK240 := n3_; have HB := n4_; clear n0_ n1_ n2_ n3_ n4_; (try clear hb); (try clear hb2); (try clear hk); (try clear hi)) | ((with_reducible refine gate_dst (N := 5) rfl ?_); refine box_event ?hg (N := 5) ?hd (cs := #[.int .i64 0, .int .i64 0, .int .i64 0]) (t := 60) ?hr ?_; (case hd => rfl); (case hg => rfl); (case hr => first | (go_simp; done) | (go_simp; rfl)); intro gb244 hg w8 hbox hb; have n0_ := Aside0.mk (Kd.R_below (by (with_reducible repeat (first | apply Kd.R_alloc | apply Kd.R_drewN | apply Kd.R_drew)); exact HO_241000.out) hb); have n1_ := Aside0.mk (Kd.R_below (by (with_reducible repeat (first | apply Kd.R_alloc | apply Kd.R_drewN | apply Kd.R_drew)); exact HO_241001.out) hb); have n2_ := Aside0.mk (blk_below (g := gb239) (o := .cells #[.slice none 0 0, .slice none 0 0, .int .i64 x240002_1] 44 (0, 0)) (by (with_reducible repeat (first | refine blk_drewN ?_ _ | refine blk_drew ?_ | refine blk_alloc ?_ _)); exact BK239.out) hb); have n3_ := Aside0.mk (blk_below (g := gb240) (o := .cells #[u241000, u241001, .int .i64 x241002_1] 44 (0, 0)) (by (with_reducible repeat (first | refine blk_drewN ?_ _ | refine blk_drew ?_ | refine blk_alloc ?_ _)); exact BK240.out) hb); have n4_ := Aside0.mk (below_step (by repeat (first | (with_reducible first | exact HB.out | apply below_alloc | apply pw_below_drewN | apply below_drew1 | refine below_set ?_ GE239.out | refine below_set ?_ GE240.out) | exact HB.out)) hb); have n5_ := Aside0.mk (hbox); have n6_ := Aside0.mk ((by rw [hg]; exact (below_size (by repeat (first | (with_reducible first | exact HB.out | apply below_alloc | apply pw_below_drewN | apply below_drew1 | refine below_set ?_ GE239.out | refine below_set ?_ GE240.out) | exact HB.out))) : w.heap.size ≤ gb244)); have n7_ := Aside0.mk ((by rw [hg]; exact (below_size (by repeat (first | (with_reducible first | exact HB.out | apply below_alloc | apply pw_below_drewN | apply below_drew1 | refine below_set ?_ GE239.out | refine below_set ?_ GE240.out) | exact HB.out))) : w.heap.size ≤ gb244)); have n8_ := Aside0.mk ((by rw [hg]; exact Nat.ne_of_lt (blk_lt (g := gb239) (o := .cells #[.slice none 0 0, .slice none 0 0, .int .i64 x240002_1] 44 (0, 0)) (by (with_reducible repeat (first | refine blk_drewN ?_ _ | refine blk_drew ?_ | refine blk_alloc ?_ _)); exact BK239.out)) : gb239 ≠ gb244)); have n9_ := Aside0.mk ((by rw [hg]; exact Nat.ne_of_gt (blk_lt (g := gb239) (o := .cells #[.slice none 0 0, .slice none 0 0, .int .i64 x240002_1] 44 (0, 0)) (by (with_reducible repeat (first | refine blk_drewN ?_ _ | refine blk_drew ?_ | refine blk_alloc ?_ _)); exact BK239.out)) : gb244 ≠ gb239)); have n10_ := Aside0.mk ((by rw [hg]; exact Nat.ne_of_lt (blk_lt (g := gb240) (o := .cells #[u241000, u241001, .int .i64 x241002_1] 44 (0, 0)) (by (with_reducible repeat (first | refine blk_drewN ?_ _ | refine blk_drew ?_ | refine blk_alloc ?_ _)); exact BK240.out)) : gb240 ≠ gb244)); have n11_ := Aside0.mk ((by rw [hg]; exact Nat.ne_of_gt (blk_lt (g := gb240) (o := .cells #[u241000, u241001, .int .i64 x241002_1] 44 (0, 0)) (by (with_reducible repeat (first | refine blk_drewN ?_ _ | refine blk_drew ?_ | refine blk_alloc ?_ _)); exact BK240.out)) : gb244 ≠ gb240)); clear HO_241000; clear HO_241001; clear BK239; clear BK240; clear HB; have HO_241000 := n0_; have HO_241001 := n1_; have BK239 := n2_; have BK240 := n3_; have HB := n4_; have BK244 := n5_; have GW244 := n6_; have GE244 := n7_; have NB239_244 := n8_; have NB244_239 := n9_; have NB240_244 := n10_; have NB244_240 := n11_; clear n0_ n1_ n2_ n3_ n4_ n5_ n6_ n7_ n8_ n9_ n10_ n11_; clear hb hbox hg; have hnb9 := NB244_239.out; have hnc9 := NB239_244.out; have hnb10 := NB244_240.out; have hnc10 := NB240_244.out; have hcz11_0 : w8.cell? ⟨gb244, 0, none⟩ = some (.int .i64 0) := (blk_cell BK244.out 0).trans rfl; have hcz11_1 : w8.cell? ⟨gb244, 1, none⟩ = some (.int .i64 0) := (blk_cell BK244.out 1).trans rfl; have hcz11_2 : w8.cell? ⟨gb244, 2, none⟩ = some (.int .i64 0) := (blk_cell BK244.out 2).trans rfl; have hfz11_0 := blk_frozen BK244.out 0; have hfz11_1 := blk_frozen BK244.out 1; have hfz11_2 := blk_frozen BK244.out 2))
    (try simp only [Act.put, List.setIfInBounds_toArray, List.set_cons_zero, List.set_cons_succ])
    go_cut [] (fun wc => ∃ (kq : Nat) (x241002_5 : Int), Aside0 (boomerangref1_AllFrames.j2 kq a0 x241000_1 x241001_1 x241002_5 t241 t242 t243 = some (r1, r2, r3)) ∧ Aside0 (kq ≤ k1) ∧ Aside0 (Kd.R Kd.string 9 wc w.heap.size (fun _ => True) u241000 x241000_1) ∧ Aside0 (Kd.R (Kd.int .i64) 3 wc w.heap.size (fun _ => True) u241001 x241001_1) ∧ Aside0 (wc.heap[gb239]? = some (.cells #[(.slice none 0 0), (.slice none 0 0), .int .i64 x240002_1] 44 (0, 0))) ∧ Aside0 (wc.heap[gb240]? = some (.cells #[u241000, u241001, .int .i64 x241002_5] 44 (0, 0))) ∧ Aside0 (wc.heap[gb244]? = some (.cells #[.int .i64 t241, .int .i64 t242, .int .i64 t243] 60 (0, 0))) ∧ Aside0 (Below w.heap.size w wc))
    case first =>
     have H := HC6.out
     clear HC6
     by_cases c12 : t243 = 0
     ·rw [if_pos c12] at H
      have c12b0 : (t243 == 0) = true := beq_iff_eq.mpr c12
      have c12b1 : (t243 != 0) = false := bne_eq_false_iff_eq.mpr c12
      clear c12
      (first | rw [c12b0] | (simp only [i64_w, i32_w]; rw [c12b0]) | skip)
      have HC13 := Aside0.mk H
      clear H
      have hnb14 := NB244_239.out
      have hnc14 := NB239_244.out
      have hnb15 := NB244_240.out
      have hnc15 := NB240_244.out
      have hcz16_0 : w8.cell? ⟨gb244, 0, none⟩ = some (.int .i64 0) := (blk_cell BK244.out 0).trans rfl
      have hcz16_1 : w8.cell? ⟨gb244, 1, none⟩ = some (.int .i64 0) := (blk_cell BK244.out 1).trans rfl
      have hcz16_2 : w8.cell? ⟨gb244, 2, none⟩ = some (.int .i64 0) := (blk_cell BK244.out 2).trans rfl
      have hfz16_0 := blk_frozen BK244.out 0
      have hfz16_1 := blk_frozen BK244.out 1
      have hfz16_2 := blk_frozen BK244.out 2
      go_upto_region 7 with (fail)
      go_cut [21] (fun v21 wc => ∃ (kq : Nat) (x21_12 : Bool), v21 = .bool x21_12 ∧ Aside0 (boomerangref1_AllFrames.j1 kq a0 x21_12 x241000_1 x241001_1 x241002_1 t241 t242 t243 = some (r1, r2, r3)) ∧ Aside0 (kq ≤ k1) ∧ Aside0 (Kd.R Kd.string 9 wc w.heap.size (fun _ => True) u241000 x241000_1) ∧ Aside0 (Kd.R (Kd.int .i64) 3 wc w.heap.size (fun _ => True) u241001 x241001_1) ∧ Aside0 (wc.heap[gb239]? = some (.cells #[(.slice none 0 0), (.slice none 0 0), .int .i64 x240002_1] 44 (0, 0))) ∧ Aside0 (wc.heap[gb240]? = some (.cells #[u241000, u241001, .int .i64 x241002_1] 44 (0, 0))) ∧ Aside0 (wc.heap[gb244]? = some (.cells #[.int .i64 t241, .int .i64 t242, .int .i64 t243] 60 (0, 0))) ∧ Aside0 (Below w.heap.size w wc))
      case first =>
       have H := HC13.out
       clear HC13
       by_cases c17 : t241 < 0
       ·rw [if_pos c17] at H
        have c17b0 : decide (t241 < 0) = true := decide_eq_true c17
        clear c17
        (first | rw [c17b0] | (simp only [i64_w, i32_w]; rw [c17b0]) | skip)
        have H' := Aside0.mk H
        clear H
        have hnb18 := NB244_239.out
        have hnc18 := NB239_244.out
        have hnb19 := NB244_240.out
        have hnc19 := NB240_244.out
        have hcz20_0 : w8.cell? ⟨gb244, 0, none⟩ = some (.int .i64 0) := (blk_cell BK244.out 0).trans rfl
        have hcz20_1 : w8.cell? ⟨gb244, 1, none⟩ = some (.int .i64 0) := (blk_cell BK244.out 1).trans rfl
        have hcz20_2 : w8.cell? ⟨gb244, 2, none⟩ = some (.int .i64 0) := (blk_cell BK244.out 2).trans rfl
        have hfz20_0 := blk_frozen BK244.out 0
        have hfz20_1 := blk_frozen BK244.out 1
        have hfz20_2 := blk_frozen BK244.out 2
        go_wp2
        go_meet
        case rel => exact ⟨_, (true), (by first | rfl | (simp; done) | (simp [*]; done)), H', ⟨by have := HK1.out; first | omega | exact Nat.le_refl _⟩, ⟨by (with_reducible repeat (first | apply Kd.R_alloc | apply Kd.R_drewN | apply Kd.R_drew)); exact Kd.R_mono (Kd.R_far (p := ⟨gb244, 2, none⟩) (Kd.R_far (p := ⟨gb244, 1, none⟩) (Kd.R_far (p := ⟨gb244, 0, none⟩) (Kd.R_types HO_241000.out BK244.out (by decide)) (fun _ hk => hk.2) (.int .i64 t241)) (fun _ hk => hk.2) (.int .i64 t242)) (fun _ hk => hk.2) (.int .i64 t243)) (fun _ hk => trivial)⟩, ⟨by (with_reducible repeat (first | apply Kd.R_alloc | apply Kd.R_drewN | apply Kd.R_drew)); exact Kd.R_mono (Kd.R_far (p := ⟨gb244, 2, none⟩) (Kd.R_far (p := ⟨gb244, 1, none⟩) (Kd.R_far (p := ⟨gb244, 0, none⟩) (Kd.R_types HO_241001.out BK244.out (by decide)) (fun _ hk => hk.2) (.int .i64 t241)) (fun _ hk => hk.2) (.int .i64 t242)) (fun _ hk => hk.2) (.int .i64 t243)) (fun _ hk => trivial)⟩, ⟨by (with_reducible repeat (first | refine blk_drewN ?_ _ | refine blk_drew ?_ | refine blk_alloc ?_ _)); refine blk_far ?_ NB239_244.out _; (with_reducible repeat (first | refine blk_drewN ?_ _ | refine blk_drew ?_ | refine blk_alloc ?_ _)); refine blk_far ?_ NB239_244.out _; (with_reducible repeat (first | refine blk_drewN ?_ _ | refine blk_drew ?_ | refine blk_alloc ?_ _)); refine blk_far ?_ NB239_244.out _; (with_reducible repeat (first | refine blk_drewN ?_ _ | refine blk_drew ?_ | refine blk_alloc ?_ _)); exact BK239.out⟩, ⟨by (with_reducible repeat (first | refine blk_drewN ?_ _ | refine blk_drew ?_ | refine blk_alloc ?_ _)); refine blk_far ?_ NB240_244.out _; (with_reducible repeat (first | refine blk_drewN ?_ _ | refine blk_drew ?_ | refine blk_alloc ?_ _)); refine blk_far ?_ NB240_244.out _; (with_reducible repeat (first | refine blk_drewN ?_ _ | refine blk_drew ?_ | refine blk_alloc ?_ _)); refine blk_far ?_ NB240_244.out _; (with_reducible repeat (first | refine blk_drewN ?_ _ | refine blk_drew ?_ | refine blk_alloc ?_ _)); exact BK240.out⟩, ⟨by (with_reducible repeat (first | refine blk_drewN ?_ _ | refine blk_drew ?_ | refine blk_alloc ?_ _)); refine blk_put (cs := #[.int .i64 t241, .int .i64 t242, .int .i64 0]) ?_ 2 _ rfl; (with_reducible repeat (first | refine blk_drewN ?_ _ | refine blk_drew ?_ | refine blk_alloc ?_ _)); refine blk_put (cs := #[.int .i64 t241, .int .i64 0, .int .i64 0]) ?_ 1 _ rfl; (with_reducible repeat (first | refine blk_drewN ?_ _ | refine blk_drew ?_ | refine blk_alloc ?_ _)); refine blk_put (cs := #[.int .i64 0, .int .i64 0, .int .i64 0]) ?_ 0 _ rfl; (with_reducible repeat (first | refine blk_drewN ?_ _ | refine blk_drew ?_ | refine blk_alloc ?_ _)); exact BK244.out⟩, ⟨by repeat (first | (with_reducible first | exact HB.out | apply below_alloc | apply pw_below_drewN | apply below_drew1 | refine below_set ?_ GE239.out | refine below_set ?_ GE240.out | refine below_set ?_ GE244.out) | exact HB.out)⟩⟩
       ·rw [if_neg c17] at H
        have c17b0 : decide (t241 < 0) = false := decide_eq_false c17
        clear c17
        (first | rw [c17b0] | (simp only [i64_w, i32_w]; rw [c17b0]) | skip)
        have H' := Aside0.mk H
        clear H
        have hnb21 := NB244_239.out
        have hnc21 := NB239_244.out
        have hnb22 := NB244_240.out
        have hnc22 := NB240_244.out
        have hcz23_0 : w8.cell? ⟨gb244, 0, none⟩ = some (.int .i64 0) := (blk_cell BK244.out 0).trans rfl
        have hcz23_1 : w8.cell? ⟨gb244, 1, none⟩ = some (.int .i64 0) := (blk_cell BK244.out 1).trans rfl
        have hcz23_2 : w8.cell? ⟨gb244, 2, none⟩ = some (.int .i64 0) := (blk_cell BK244.out 2).trans rfl
        have hfz23_0 := blk_frozen BK244.out 0
        have hfz23_1 := blk_frozen BK244.out 1
        have hfz23_2 := blk_frozen BK244.out 2
        go_wp2
        go_meet
        case rel => exact ⟨_, (decide (t241 > 4096)), (by first | rfl | (simp; done) | (simp [*]; done)), H', ⟨by have := HK1.out; first | omega | exact Nat.le_refl _⟩, ⟨by (with_reducible repeat (first | apply Kd.R_alloc | apply Kd.R_drewN | apply Kd.R_drew)); exact Kd.R_mono (Kd.R_far (p := ⟨gb244, 2, none⟩) (Kd.R_far (p := ⟨gb244, 1, none⟩) (Kd.R_far (p := ⟨gb244, 0, none⟩) (Kd.R_types HO_241000.out BK244.out (by decide)) (fun _ hk => hk.2) (.int .i64 t241)) (fun _ hk => hk.2) (.int .i64 t242)) (fun _ hk => hk.2) (.int .i64 t243)) (fun _ hk => trivial)⟩, ⟨by (with_reducible repeat (first | apply Kd.R_alloc | apply Kd.R_drewN | apply Kd.R_drew)); exact Kd.R_mono (Kd.R_far (p := ⟨gb244, 2, none⟩) (Kd.R_far (p := ⟨gb244, 1, none⟩) (Kd.R_far (p := ⟨gb244, 0, none⟩) (Kd.R_types HO_241001.out BK244.out (by decide)) (fun _ hk => hk.2) (.int .i64 t241)) (fun _ hk => hk.2) (.int .i64 t242)) (fun _ hk => hk.2) (.int .i64 t243)) (fun _ hk => trivial)⟩, ⟨by (with_reducible repeat (first | refine blk_drewN ?_ _ | refine blk_drew ?_ | refine blk_alloc ?_ _)); refine blk_far ?_ NB239_244.out _; (with_reducible repeat (first | refine blk_drewN ?_ _ | refine blk_drew ?_ | refine blk_alloc ?_ _)); refine blk_far ?_ NB239_244.out _; (with_reducible repeat (first | refine blk_drewN ?_ _ | refine blk_drew ?_ | refine blk_alloc ?_ _)); refine blk_far ?_ NB239_244.out _; (with_reducible repeat (first | refine blk_drewN ?_ _ | refine blk_drew ?_ | refine blk_alloc ?_ _)); exact BK239.out⟩, ⟨by (with_reducible repeat (first | refine blk_drewN ?_ _ | refine blk_drew ?_ | refine blk_alloc ?_ _)); refine blk_far ?_ NB240_244.out _; (with_reducible repeat (first | refine blk_drewN ?_ _ | refine blk_drew ?_ | refine blk_alloc ?_ _)); refine blk_far ?_ NB240_244.out _; (with_reducible repeat (first | refine blk_drewN ?_ _ | refine blk_drew ?_ | refine blk_alloc ?_ _)); refine blk_far ?_ NB240_244.out _; (with_reducible repeat (first | refine blk_drewN ?_ _ | refine blk_drew ?_ | refine blk_alloc ?_ _)); exact BK240.out⟩, ⟨by (with_reducible repeat (first | refine blk_drewN ?_ _ | refine blk_drew ?_ | refine blk_alloc ?_ _)); refine blk_put (cs := #[.int .i64 t241, .int .i64 t242, .int .i64 0]) ?_ 2 _ rfl; (with_reducible repeat (first | refine blk_drewN ?_ _ | refine blk_drew ?_ | refine blk_alloc ?_ _)); refine blk_put (cs := #[.int .i64 t241, .int .i64 0, .int .i64 0]) ?_ 1 _ rfl; (with_reducible repeat (first | refine blk_drewN ?_ _ | refine blk_drew ?_ | refine blk_alloc ?_ _)); refine blk_put (cs := #[.int .i64 0, .int .i64 0, .int .i64 0]) ?_ 0 _ rfl; (with_reducible repeat (first | refine blk_drewN ?_ _ | refine blk_drew ?_ | refine blk_alloc ?_ _)); exact BK244.out⟩, ⟨by repeat (first | (with_reducible first | exact HB.out | apply below_alloc | apply pw_below_drewN | apply below_drew1 | refine below_set ?_ GE239.out | refine below_set ?_ GE240.out | refine below_set ?_ GE244.out) | exact HB.out)⟩⟩
      case rest =>
       clear HC13
       try clear c1
       try clear c2
       try clear p2
       try clear c3
       try clear c4
       try clear c4b0
       try clear c9
       try clear c10
       try clear c12
       try clear c12b0
       try clear c12b1
       try clear c14
       try clear c15
       try clear c17
       try clear c17b0
       try clear c18
       try clear c19
       try clear c21
       try clear c22
       try clear hcz11_0
       try clear hcz11_1
       try clear hcz11_2
       try clear hcz16_0
       try clear hcz16_1
       try clear hcz16_2
       try clear hcz20_0
       try clear hcz20_1
       try clear hcz20_2
       try clear hcz23_0
       try clear hcz23_1
       try clear hcz23_2
       try clear hfz11_0
       try clear hfz11_1
       try clear hfz11_2
       try clear hfz16_0
       try clear hfz16_1
       try clear hfz16_2
       try clear hfz20_0
       try clear hfz20_1
       try clear hfz20_2
       try clear hfz23_0
       try clear hfz23_1
       try clear hfz23_2
       try clear p2
       obtain ⟨kq, x21_12, rfl, HA, HJ12, HO_241000, HO_241001, BK239, BK240, BK244, HB⟩ := hcut
       cases kq with
       | zero => exact absurd HA.out (by simp [boomerangref1_AllFrames.j1])
       | succ kj12 =>
        have H := HA.out
        clear HA
        simp only [boomerangref1_AllFrames.j1] at H
        by_cases c24 : x21_12 = true
        ·subst c24
         have H1 : (boomerangref1_AllFrames.j2 kj12 a0 x241000_1 x241001_1 4 t241 t242 t243) = some (r1, r2, r3) := by rw [if_pos rfl] at H; exact H
         clear H
         have H := H1
         clear H1
         have H' := Aside0.mk H
         clear H
         have hnb25 := NB240_239.out
         have hnc25 := NB239_240.out
         have hnb26 := NB240_244.out
         have hnc26 := NB244_240.out
         have hcz27_0 : wc.cell? ⟨gb240, 0, none⟩ = some (u241000) := (blk_cell BK240.out 0).trans rfl
         have hcz27_1 : wc.cell? ⟨gb240, 1, none⟩ = some (u241001) := (blk_cell BK240.out 1).trans rfl
         have hcz27_2 : wc.cell? ⟨gb240, 2, none⟩ = some (.int .i64 x241002_1) := (blk_cell BK240.out 2).trans rfl
         have hfz27_0 := blk_frozen BK240.out 0
         have hfz27_1 := blk_frozen BK240.out 1
         have hfz27_2 := blk_frozen BK240.out 2
         go_wp2
         go_meet
         case rel => exact ⟨_, (4), H', ⟨by have := HK1.out; have := HJ12.out; first | omega | exact Nat.le_refl _⟩, ⟨by (with_reducible repeat (first | apply Kd.R_alloc | apply Kd.R_drewN | apply Kd.R_drew)); exact Kd.R_mono (Kd.R_far (p := ⟨gb240, 2, none⟩) (Kd.R_types HO_241000.out BK240.out (by decide)) (fun _ hk => hk.2) (.int .i64 4)) (fun _ hk => trivial)⟩, ⟨by (with_reducible repeat (first | apply Kd.R_alloc | apply Kd.R_drewN | apply Kd.R_drew)); exact Kd.R_mono (Kd.R_far (p := ⟨gb240, 2, none⟩) (Kd.R_types HO_241001.out BK240.out (by decide)) (fun _ hk => hk.2) (.int .i64 4)) (fun _ hk => trivial)⟩, ⟨by (with_reducible repeat (first | refine blk_drewN ?_ _ | refine blk_drew ?_ | refine blk_alloc ?_ _)); refine blk_far ?_ NB239_240.out _; (with_reducible repeat (first | refine blk_drewN ?_ _ | refine blk_drew ?_ | refine blk_alloc ?_ _)); exact BK239.out⟩, ⟨by (with_reducible repeat (first | refine blk_drewN ?_ _ | refine blk_drew ?_ | refine blk_alloc ?_ _)); refine blk_put (cs := #[u241000, u241001, .int .i64 x241002_1]) ?_ 2 _ rfl; (with_reducible repeat (first | refine blk_drewN ?_ _ | refine blk_drew ?_ | refine blk_alloc ?_ _)); exact BK240.out⟩, ⟨by (with_reducible repeat (first | refine blk_drewN ?_ _ | refine blk_drew ?_ | refine blk_alloc ?_ _)); refine blk_far ?_ NB244_240.out _; (with_reducible repeat (first | refine blk_drewN ?_ _ | refine blk_drew ?_ | refine blk_alloc ?_ _)); exact BK244.out⟩, ⟨by repeat (first | (with_reducible first | exact HB.out | apply below_alloc | apply pw_below_drewN | apply below_drew1 | refine below_set ?_ GE239.out | refine below_set ?_ GE240.out | refine below_set ?_ GE244.out) | exact HB.out)⟩⟩
        ·replace c24 := Bool.eq_false_iff.mpr c24
         subst c24
         have H1 : (if (wrap64 ((a0.size : Int) - t242)) < (wrap64 (t241 + 4)) then (boomerangref1_AllFrames.j2 kj12 a0 x241000_1 x241001_1 3 t241 t242 t243) else (boomerangref1_AllFrames.j2 kj12 a0 x241000_1 x241001_1 x241002_1 t241 t242 t243)) = some (r1, r2, r3) := by rw [if_neg (show ¬ (false = true) by decide)] at H; exact H
         clear H
         have H := H1
         clear H1
         by_cases c28 : (wrap64 ((a0.size : Int) - t242)) < (wrap64 (t241 + 4))
         ·rw [if_pos c28] at H
          have c28b0 : decide ((wrap64 ((a0.size : Int) - t242)) < (wrap64 (t241 + 4))) = true := decide_eq_true c28
          clear c28
          have H' := Aside0.mk H
          clear H
          have hnb29 := NB244_239.out
          have hnc29 := NB239_244.out
          have hnb30 := NB244_240.out
          have hnc30 := NB240_244.out
          have hcz31_0 : wc.cell? ⟨gb244, 0, none⟩ = some (.int .i64 t241) := (blk_cell BK244.out 0).trans rfl
          have hcz31_1 : wc.cell? ⟨gb244, 1, none⟩ = some (.int .i64 t242) := (blk_cell BK244.out 1).trans rfl
          have hcz31_2 : wc.cell? ⟨gb244, 2, none⟩ = some (.int .i64 t243) := (blk_cell BK244.out 2).trans rfl
          have hfz31_0 := blk_frozen BK244.out 0
          have hfz31_1 := blk_frozen BK244.out 1
          have hfz31_2 := blk_frozen BK244.out 2
          have hnb32 := NB240_239.out
          have hnc32 := NB239_240.out
          have hcz33_0 : wc.cell? ⟨gb240, 0, none⟩ = some (u241000) := (blk_cell BK240.out 0).trans rfl
          have hcz33_1 : wc.cell? ⟨gb240, 1, none⟩ = some (u241001) := (blk_cell BK240.out 1).trans rfl
          have hcz33_2 : wc.cell? ⟨gb240, 2, none⟩ = some (.int .i64 x241002_1) := (blk_cell BK240.out 2).trans rfl
          have hfz33_0 := blk_frozen BK240.out 0
          have hfz33_1 := blk_frozen BK240.out 1
          have hfz33_2 := blk_frozen BK240.out 2
          go_wp2
          go_meet
          case rel => exact ⟨_, (3), H', ⟨by have := HK1.out; have := HJ12.out; first | omega | exact Nat.le_refl _⟩, ⟨by (with_reducible repeat (first | apply Kd.R_alloc | apply Kd.R_drewN | apply Kd.R_drew)); exact Kd.R_mono (Kd.R_far (p := ⟨gb240, 2, none⟩) (Kd.R_types HO_241000.out BK240.out (by decide)) (fun _ hk => hk.2) (.int .i64 3)) (fun _ hk => trivial)⟩, ⟨by (with_reducible repeat (first | apply Kd.R_alloc | apply Kd.R_drewN | apply Kd.R_drew)); exact Kd.R_mono (Kd.R_far (p := ⟨gb240, 2, none⟩) (Kd.R_types HO_241001.out BK240.out (by decide)) (fun _ hk => hk.2) (.int .i64 3)) (fun _ hk => trivial)⟩, ⟨by (with_reducible repeat (first | refine blk_drewN ?_ _ | refine blk_drew ?_ | refine blk_alloc ?_ _)); refine blk_far ?_ NB239_240.out _; (with_reducible repeat (first | refine blk_drewN ?_ _ | refine blk_drew ?_ | refine blk_alloc ?_ _)); exact BK239.out⟩, ⟨by (with_reducible repeat (first | refine blk_drewN ?_ _ | refine blk_drew ?_ | refine blk_alloc ?_ _)); refine blk_put (cs := #[u241000, u241001, .int .i64 x241002_1]) ?_ 2 _ rfl; (with_reducible repeat (first | refine blk_drewN ?_ _ | refine blk_drew ?_ | refine blk_alloc ?_ _)); exact BK240.out⟩, ⟨by (with_reducible repeat (first | refine blk_drewN ?_ _ | refine blk_drew ?_ | refine blk_alloc ?_ _)); refine blk_far ?_ NB244_240.out _; (with_reducible repeat (first | refine blk_drewN ?_ _ | refine blk_drew ?_ | refine blk_alloc ?_ _)); exact BK244.out⟩, ⟨by repeat (first | (with_reducible first | exact HB.out | apply below_alloc | apply pw_below_drewN | apply below_drew1 | refine below_set ?_ GE239.out | refine below_set ?_ GE240.out | refine below_set ?_ GE244.out) | exact HB.out)⟩⟩
         ·rw [if_neg c28] at H
          have c28b0 : decide ((wrap64 ((a0.size : Int) - t242)) < (wrap64 (t241 + 4))) = false := decide_eq_false c28
          clear c28
          have H' := Aside0.mk H
          clear H
          have hnb34 := NB244_239.out
          have hnc34 := NB239_244.out
          have hnb35 := NB244_240.out
          have hnc35 := NB240_244.out
          have hcz36_0 : wc.cell? ⟨gb244, 0, none⟩ = some (.int .i64 t241) := (blk_cell BK244.out 0).trans rfl
          have hcz36_1 : wc.cell? ⟨gb244, 1, none⟩ = some (.int .i64 t242) := (blk_cell BK244.out 1).trans rfl
          have hcz36_2 : wc.cell? ⟨gb244, 2, none⟩ = some (.int .i64 t243) := (blk_cell BK244.out 2).trans rfl
          have hfz36_0 := blk_frozen BK244.out 0
          have hfz36_1 := blk_frozen BK244.out 1
          have hfz36_2 := blk_frozen BK244.out 2
          go_wp2
          go_meet
          case rel => exact ⟨_, (x241002_1), H', ⟨by have := HK1.out; have := HJ12.out; first | omega | exact Nat.le_refl _⟩, ⟨by (with_reducible repeat (first | apply Kd.R_alloc | apply Kd.R_drewN | apply Kd.R_drew)); exact HO_241000.out⟩, ⟨by (with_reducible repeat (first | apply Kd.R_alloc | apply Kd.R_drewN | apply Kd.R_drew)); exact HO_241001.out⟩, ⟨by (with_reducible repeat (first | refine blk_drewN ?_ _ | refine blk_drew ?_ | refine blk_alloc ?_ _)); exact BK239.out⟩, ⟨by (with_reducible repeat (first | refine blk_drewN ?_ _ | refine blk_drew ?_ | refine blk_alloc ?_ _)); exact BK240.out⟩, ⟨by (with_reducible repeat (first | refine blk_drewN ?_ _ | refine blk_drew ?_ | refine blk_alloc ?_ _)); exact BK244.out⟩, ⟨by repeat (first | (with_reducible first | exact HB.out | apply below_alloc | apply pw_below_drewN | apply below_drew1 | refine below_set ?_ GE239.out | refine below_set ?_ GE240.out | refine below_set ?_ GE244.out) | exact HB.out)⟩⟩
     ·rw [if_neg c12] at H
      have c12b0 : (t243 == 0) = false := beq_eq_false_iff_ne.mpr c12
      have c12b1 : (t243 != 0) = true := bne_iff_ne.mpr c12
      (first | rw [c12b0] | (simp only [i64_w, i32_w]; rw [c12b0]) | skip)
      have H' := Aside0.mk H
      clear H
      have hnb37 := NB244_239.out
      have hnc37 := NB239_244.out
      have hnb38 := NB244_240.out
      have hnc38 := NB240_244.out
      have hcz39_0 : w8.cell? ⟨gb244, 0, none⟩ = some (.int .i64 0) := (blk_cell BK244.out 0).trans rfl
      have hcz39_1 : w8.cell? ⟨gb244, 1, none⟩ = some (.int .i64 0) := (blk_cell BK244.out 1).trans rfl
      have hcz39_2 : w8.cell? ⟨gb244, 2, none⟩ = some (.int .i64 0) := (blk_cell BK244.out 2).trans rfl
      have hfz39_0 := blk_frozen BK244.out 0
      have hfz39_1 := blk_frozen BK244.out 1
      have hfz39_2 := blk_frozen BK244.out 2
      have hnb40 := NB240_239.out
      have hnc40 := NB239_240.out
      have hcz41_0 : w8.cell? ⟨gb240, 0, none⟩ = some (u241000) := (blk_cell BK240.out 0).trans rfl
      have hcz41_1 : w8.cell? ⟨gb240, 1, none⟩ = some (u241001) := (blk_cell BK240.out 1).trans rfl
      have hcz41_2 : w8.cell? ⟨gb240, 2, none⟩ = some (.int .i64 x241002_1) := (blk_cell BK240.out 2).trans rfl
      have hfz41_0 := blk_frozen BK240.out 0
      have hfz41_1 := blk_frozen BK240.out 1
      have hfz41_2 := blk_frozen BK240.out 2
      go_wp2
      go_meet
      case rel => exact ⟨_, (t243), H', ⟨by have := HK1.out; first | omega | exact Nat.le_refl _⟩, ⟨by (with_reducible repeat (first | apply Kd.R_alloc | apply Kd.R_drewN | apply Kd.R_drew)); exact Kd.R_mono (Kd.R_far (p := ⟨gb240, 2, none⟩) (Kd.R_far (p := ⟨gb244, 2, none⟩) (Kd.R_far (p := ⟨gb244, 1, none⟩) (Kd.R_far (p := ⟨gb244, 0, none⟩) (Kd.R_types (Kd.R_types HO_241000.out BK244.out (by decide)) BK240.out (by decide)) (fun _ hk => hk.1.2) (.int .i64 t241)) (fun _ hk => hk.1.2) (.int .i64 t242)) (fun _ hk => hk.1.2) (.int .i64 t243)) (fun _ hk => hk.2) (.int .i64 t243)) (fun _ hk => trivial)⟩, ⟨by (with_reducible repeat (first | apply Kd.R_alloc | apply Kd.R_drewN | apply Kd.R_drew)); exact Kd.R_mono (Kd.R_far (p := ⟨gb240, 2, none⟩) (Kd.R_far (p := ⟨gb244, 2, none⟩) (Kd.R_far (p := ⟨gb244, 1, none⟩) (Kd.R_far (p := ⟨gb244, 0, none⟩) (Kd.R_types (Kd.R_types HO_241001.out BK244.out (by decide)) BK240.out (by decide)) (fun _ hk => hk.1.2) (.int .i64 t241)) (fun _ hk => hk.1.2) (.int .i64 t242)) (fun _ hk => hk.1.2) (.int .i64 t243)) (fun _ hk => hk.2) (.int .i64 t243)) (fun _ hk => trivial)⟩, ⟨by (with_reducible repeat (first | refine blk_drewN ?_ _ | refine blk_drew ?_ | refine blk_alloc ?_ _)); refine blk_far ?_ NB239_240.out _; (with_reducible repeat (first | refine blk_drewN ?_ _ | refine blk_drew ?_ | refine blk_alloc ?_ _)); refine blk_far ?_ NB239_244.out _; (with_reducible repeat (first | refine blk_drewN ?_ _ | refine blk_drew ?_ | refine blk_alloc ?_ _)); refine blk_far ?_ NB239_244.out _; (with_reducible repeat (first | refine blk_drewN ?_ _ | refine blk_drew ?_ | refine blk_alloc ?_ _)); refine blk_far ?_ NB239_244.out _; (with_reducible repeat (first | refine blk_drewN ?_ _ | refine blk_drew ?_ | refine blk_alloc ?_ _)); exact BK239.out⟩, ⟨by (with_reducible repeat (first | refine blk_drewN ?_ _ | refine blk_drew ?_ | refine blk_alloc ?_ _)); refine blk_put (cs := #[u241000, u241001, .int .i64 x241002_1]) ?_ 2 _ rfl; (with_reducible repeat (first | refine blk_drewN ?_ _ | refine blk_drew ?_ | refine blk_alloc ?_ _)); refine blk_far ?_ NB240_244.out _; (with_reducible repeat (first | refine blk_drewN ?_ _ | refine blk_drew ?_ | refine blk_alloc ?_ _)); refine blk_far ?_ NB240_244.out _; (with_reducible repeat (first | refine blk_drewN ?_ _ | refine blk_drew ?_ | refine blk_alloc ?_ _)); refine blk_far ?_ NB240_244.out _; (with_reducible repeat (first | refine blk_drewN ?_ _ | refine blk_drew ?_ | refine blk_alloc ?_ _)); exact BK240.out⟩, ⟨by (with_reducible repeat (first | refine blk_drewN ?_ _ | refine blk_drew ?_ | refine blk_alloc ?_ _)); refine blk_far ?_ NB244_240.out _; (with_reducible repeat (first | refine blk_drewN ?_ _ | refine blk_drew ?_ | refine blk_alloc ?_ _)); refine blk_put (cs := #[.int .i64 t241, .int .i64 t242, .int .i64 0]) ?_ 2 _ rfl; (with_reducible repeat (first | refine blk_drewN ?_ _ | refine blk_drew ?_ | refine blk_alloc ?_ _)); refine blk_put (cs := #[.int .i64 t241, .int .i64 0, .int .i64 0]) ?_ 1 _ rfl; (with_reducible repeat (first | refine blk_drewN ?_ _ | refine blk_drew ?_ | refine blk_alloc ?_ _)); refine blk_put (cs := #[.int .i64 0, .int .i64 0, .int .i64 0]) ?_ 0 _ rfl; (with_reducible repeat (first | refine blk_drewN ?_ _ | refine blk_drew ?_ | refine blk_alloc ?_ _)); exact BK244.out⟩, ⟨by repeat (first | (with_reducible first | exact HB.out | apply below_alloc | apply pw_below_drewN | apply below_drew1 | refine below_set ?_ GE239.out | refine below_set ?_ GE240.out | refine below_set ?_ GE244.out) | exact HB.out)⟩⟩
    case rest =>
     clear HC6
     try clear c1
     try clear c2
     try clear p2
     try clear c3
     try clear c4
     try clear c4b0
     try clear p6
     try clear c9
     try clear c10
     try clear c12
     try clear c12b0
     try clear c12b1
     try clear c14
     try clear c15
     try clear c17
     try clear c17b0
     try clear c18
     try clear c19
     try clear c21
     try clear c22
     try clear c24
     try clear c25
     try clear c26
     try clear c28
     try clear c28b0
     try clear c29
     try clear c30
     try clear c31
     try clear c32
     try clear c34
     try clear c35
     try clear c37
     try clear c38
     try clear c40
     try clear hcz11_0
     try clear hcz11_1
     try clear hcz11_2
     try clear hcz16_0
     try clear hcz16_1
     try clear hcz16_2
     try clear hcz20_0
     try clear hcz20_1
     try clear hcz20_2
     try clear hcz23_0
     try clear hcz23_1
     try clear hcz23_2
     try clear hcz27_0
     try clear hcz27_1
     try clear hcz27_2
     try clear hcz31_0
     try clear hcz31_1
     try clear hcz31_2
     try clear hcz33_0
     try clear hcz33_1
     try clear hcz33_2
     try clear hcz36_0
     try clear hcz36_1
     try clear hcz36_2
     try clear hcz39_0
     try clear hcz39_1
     try clear hcz39_2
     try clear hcz41_0
     try clear hcz41_1
     try clear hcz41_2
     try clear hfz11_0
     try clear hfz11_1
     try clear hfz11_2
     try clear hfz16_0
     try clear hfz16_1
     try clear hfz16_2
     try clear hfz20_0
     try clear hfz20_1
     try clear hfz20_2
     try clear hfz23_0
     try clear hfz23_1
     try clear hfz23_2
     try clear hfz27_0
     try clear hfz27_1
     try clear hfz27_2
     try clear hfz31_0
     try clear hfz31_1
     try clear hfz31_2
     try clear hfz33_0
     try clear hfz33_1
     try clear hfz33_2
     try clear hfz36_0
     try clear hfz36_1
     try clear hfz36_2
     try clear hfz39_0
     try clear hfz39_1
     try clear hfz39_2
     try clear hfz41_0
     try clear hfz41_1
     try clear hfz41_2
     try clear p2
     obtain ⟨kq, x241002_5, HA, HJ5, HO_241000, HO_241001, BK239, BK240, BK244, HB⟩ := hcut
     cases kq with
     | zero => exact absurd HA.out (by simp [boomerangref1_AllFrames.j2])
     | succ kj5 =>
      have H := HA.out
      clear HA
      simp only [boomerangref1_AllFrames.j2] at H
      by_cases c42 : x241002_5 = 0
      ·rw [if_pos c42] at H
       have c42b0 : (x241002_5 == 0) = true := beq_iff_eq.mpr c42
       have c42b1 : (x241002_5 != 0) = false := bne_eq_false_iff_eq.mpr c42
       clear c42
       by_cases c43 : 0 ≤ t242
       ·rw [if_pos c43] at H
        have c43b0 := eq_true c43
        have c43b1 : decide (0 ≤ t242) = true := decide_eq_true c43
        clear c43
        by_cases c44 : t242 ≤ (wrap64 ((wrap64 (t242 + t241)) + 4))
        ·rw [if_pos c44] at H
         have c44b0 := eq_true c44
         have c44b1 : decide (t242 ≤ (wrap64 ((wrap64 (t242 + t241)) + 4))) = true := decide_eq_true c44
         by_cases c45 : (wrap64 ((wrap64 (t242 + t241)) + 4)) ≤ (a0.size : Int)
         ·rw [if_pos c45] at H
          have c45b0 := eq_true c45
          have c45b1 : decide ((wrap64 ((wrap64 (t242 + t241)) + 4)) ≤ (a0.size : Int)) = true := decide_eq_true c45
          replace H := Option.bind_eq_some_iff.mp H
          obtain ⟨⟨t245, t246, t247⟩, A460, H⟩ := H
          replace H : (if t247 = 0 then (if x241000_1.length < 8796093022208 then (if x241001_1.length < 17592186044416 then (boomerangref1_AllFrames.l0 kj5 a0 (wrap64 ((wrap64 (t242 + t241)) + 4)) (x241000_1 ++ [t245]) (x241001_1 ++ [wrap64 ((wrap64 (t242 + t241)) + 4)]) x241002_5) else (none)) else (none)) else (some (x241000_1, x241001_1, t247))) = some (r1, r2, r3) := H
          have A46 := Aside0.mk A460
          clear A460
          by_cases c47 : t247 = 0
          ·rw [if_pos c47] at H
           have c47b0 : (t247 == 0) = true := beq_iff_eq.mpr c47
           have c47b1 : (t247 != 0) = false := bne_eq_false_iff_eq.mpr c47
           clear c47
           by_cases c48 : x241000_1.length < 8796093022208
           ·rw [if_pos c48] at H
            have LMc48 := Aside0.mk c48
            clear c48
            obtain ⟨y249, hy249⟩ : ∃ y_ : List ByteArray, y_ = (x241000_1 ++ [t245]) := ⟨_, rfl⟩
            replace H : (if x241001_1.length < 17592186044416 then (boomerangref1_AllFrames.l0 kj5 a0 (wrap64 ((wrap64 (t242 + t241)) + 4)) y249 (x241001_1 ++ [wrap64 ((wrap64 (t242 + t241)) + 4)]) x241002_5) else (none)) = some (r1, r2, r3) := by first | (rw [hy249]; with_reducible exact H) | (have H2_ := (Option.bind_some _ _).symm.trans H; rw [hy249]; with_reducible exact H2_) | (have H2_ := (Option.bind_some _ _).symm.trans H; with_reducible exact H2_) | with_reducible exact H | (rw [hy249]; exact H) | exact H
            have Ny249 := Aside0.mk hy249
            clear hy249
            by_cases c49 : x241001_1.length < 17592186044416
            ·rw [if_pos c49] at H
             have LMc49 := Aside0.mk c49
             clear c49
             obtain ⟨y252, hy252⟩ : ∃ y_ : List Int, y_ = (x241001_1 ++ [wrap64 ((wrap64 (t242 + t241)) + 4)]) := ⟨_, rfl⟩
             replace H : (boomerangref1_AllFrames.l0 kj5 a0 (wrap64 ((wrap64 (t242 + t241)) + 4)) y249 y252 x241002_5) = some (r1, r2, r3) := by first | (rw [hy252]; with_reducible exact H) | (have H2_ := (Option.bind_some _ _).symm.trans H; rw [hy252]; with_reducible exact H2_) | (have H2_ := (Option.bind_some _ _).symm.trans H; with_reducible exact H2_) | with_reducible exact H | (rw [hy252]; exact H) | exact H
             have Ny252 := Aside0.mk hy252
             clear hy252
             have H' := Aside0.mk H
             clear H
             have hnb50 := NB240_239.out
             have hnc50 := NB239_240.out
             have hnb51 := NB240_244.out
             have hnc51 := NB244_240.out
             have hcz52_0 : wc.cell? ⟨gb240, 0, none⟩ = some (u241000) := (blk_cell BK240.out 0).trans rfl
             have hcz52_1 : wc.cell? ⟨gb240, 1, none⟩ = some (u241001) := (blk_cell BK240.out 1).trans rfl
             have hcz52_2 : wc.cell? ⟨gb240, 2, none⟩ = some (.int .i64 x241002_5) := (blk_cell BK240.out 2).trans rfl
             have hfz52_0 := blk_frozen BK240.out 0
             have hfz52_1 := blk_frozen BK240.out 1
             have hfz52_2 := blk_frozen BK240.out 2
             have hnb53 := NB244_239.out
             have hnc53 := NB239_244.out
             have hcz54_0 : wc.cell? ⟨gb244, 0, none⟩ = some (.int .i64 t241) := (blk_cell BK244.out 0).trans rfl
             have hcz54_1 : wc.cell? ⟨gb244, 1, none⟩ = some (.int .i64 t242) := (blk_cell BK244.out 1).trans rfl
             have hcz54_2 : wc.cell? ⟨gb244, 2, none⟩ = some (.int .i64 t243) := (blk_cell BK244.out 2).trans rfl
             have hfz54_0 := blk_frozen BK244.out 0
             have hfz54_1 := blk_frozen BK244.out 1
             have hfz54_2 := blk_frozen BK244.out 2
             go_wp2_with (first | ((with_reducible refine gate_callee (f := 16) rfl ?_); refine goesL_ (some 56) rfl rfl Try.func16 (by kernel_rfl) rfl #[.string (a0.extract (t242 : Int).toNat ((wrap64 ((wrap64 (t242 + t241)) + 4)) : Int).toNat)] rfl (by (try simp only [List.map_toArray, List.map_cons, List.map_nil]); first | done | rfl | (simp only [List.length_drop, List.length_take]; rfl)) ?_; (with_reducible refine (boomerangref1_GetSum.calls kj5 (a0.extract (t242 : Int).toNat ((wrap64 ((wrap64 (t242 + t241)) + 4)) : Int).toNat) t245 t246 t247 _ A46.out).mono ?_); rintro e w55 ⟨rfl, hb⟩; refine ⟨_, rfl, ?_⟩; have n0_ := Aside0.mk (Kd.R_below (by (with_reducible repeat (first | apply Kd.R_alloc | apply Kd.R_drewN | apply Kd.R_drew)); exact HO_241000.out) hb); have n1_ := Aside0.mk (Kd.R_below (by (with_reducible repeat (first | apply Kd.R_alloc | apply Kd.R_drewN | apply Kd.R_drew)); exact HO_241001.out) hb); have n2_ := Aside0.mk (blk_below (g := gb239) (o := .cells #[.slice none 0 0, .slice none 0 0, .int .i64 x240002_1] 44 (0, 0)) (by (with_reducible repeat (first | refine blk_drewN ?_ _ | refine blk_drew ?_ | refine blk_alloc ?_ _)); exact BK239.out) hb); have n3_ := Aside0.mk (blk_below (g := gb240) (o := .cells #[u241000, u241001, .int .i64 x241002_5] 44 (0, 0)) (by (with_reducible repeat (first | refine blk_drewN ?_ _ | refine blk_drew ?_ | refine blk_alloc ?_ _)); exact BK240.out) hb); have n4_ := Aside0.mk (blk_below (g := gb244) (o := .cells #[.int .i64 t241, .int .i64 t242, .int .i64 t243] 60 (0, 0)) (by (with_reducible repeat (first | refine blk_drewN ?_ _ | refine blk_drew ?_ | refine blk_alloc ?_ _)); exact BK244.out) hb); have n5_ := Aside0.mk (below_step (by repeat (first | (with_reducible first | exact HB.out | apply below_alloc | apply pw_below_drewN | apply below_drew1 | refine below_set ?_ GE239.out | refine below_set ?_ GE240.out | refine below_set ?_ GE244.out) | exact HB.out)) hb); clear HO_241000; clear HO_241001; clear BK239; clear BK240; clear BK244; clear HB; have HO_241000 := n0_; have HO_241001 := n1_; have BK239 := n2_; have BK240 := n3_; have BK244 := n4_; have HB := n5_; clear n0_ n1_ n2_ n3_ n4_ n5_; (try clear hb); (try clear hb2); (try clear hk); (try clear hi)) | ((with_reducible refine gate_dst (N := 6) rfl ?_); refine box_event ?hg (N := 6) ?hd (cs := #[.string (⟨#[]⟩ : ByteArray), .int .i64 0, .int .i64 0]) (t := 33) ?hr ?_; (case hd => rfl); (case hg => rfl); (case hr => first | (go_simp; done) | (go_simp; rfl)); intro gb248 hg w56 hbox hb; have n0_ := Aside0.mk (Kd.R_below (by (with_reducible repeat (first | apply Kd.R_alloc | apply Kd.R_drewN | apply Kd.R_drew)); exact HO_241000.out) hb); have n1_ := Aside0.mk (Kd.R_below (by (with_reducible repeat (first | apply Kd.R_alloc | apply Kd.R_drewN | apply Kd.R_drew)); exact HO_241001.out) hb); have n2_ := Aside0.mk (blk_below (g := gb239) (o := .cells #[.slice none 0 0, .slice none 0 0, .int .i64 x240002_1] 44 (0, 0)) (by (with_reducible repeat (first | refine blk_drewN ?_ _ | refine blk_drew ?_ | refine blk_alloc ?_ _)); exact BK239.out) hb); have n3_ := Aside0.mk (blk_below (g := gb240) (o := .cells #[u241000, u241001, .int .i64 x241002_5] 44 (0, 0)) (by (with_reducible repeat (first | refine blk_drewN ?_ _ | refine blk_drew ?_ | refine blk_alloc ?_ _)); exact BK240.out) hb); have n4_ := Aside0.mk (blk_below (g := gb244) (o := .cells #[.int .i64 t241, .int .i64 t242, .int .i64 t243] 60 (0, 0)) (by (with_reducible repeat (first | refine blk_drewN ?_ _ | refine blk_drew ?_ | refine blk_alloc ?_ _)); exact BK244.out) hb); have n5_ := Aside0.mk (below_step (by repeat (first | (with_reducible first | exact HB.out | apply below_alloc | apply pw_below_drewN | apply below_drew1 | refine below_set ?_ GE239.out | refine below_set ?_ GE240.out | refine below_set ?_ GE244.out) | exact HB.out)) hb); have n6_ := Aside0.mk (hbox); have n7_ := Aside0.mk ((by rw [hg]; exact (below_size (by repeat (first | (with_reducible first | exact HB.out | apply below_alloc | apply pw_below_drewN | apply below_drew1 | refine below_set ?_ GE239.out | refine below_set ?_ GE240.out | refine below_set ?_ GE244.out) | exact HB.out))) : w.heap.size ≤ gb248)); have n8_ := Aside0.mk ((by rw [hg]; exact (below_size (by repeat (first | (with_reducible first | exact HB.out | apply below_alloc | apply pw_below_drewN | apply below_drew1 | refine below_set ?_ GE239.out | refine below_set ?_ GE240.out | refine below_set ?_ GE244.out) | exact HB.out))) : w.heap.size ≤ gb248)); have n9_ := Aside0.mk ((by rw [hg]; exact Nat.ne_of_lt (blk_lt (g := gb239) (o := .cells #[.slice none 0 0, .slice none 0 0, .int .i64 x240002_1] 44 (0, 0)) (by (with_reducible repeat (first | refine blk_drewN ?_ _ | refine blk_drew ?_ | refine blk_alloc ?_ _)); exact BK239.out)) : gb239 ≠ gb248)); have n10_ := Aside0.mk ((by rw [hg]; exact Nat.ne_of_gt (blk_lt (g := gb239) (o := .cells #[.slice none 0 0, .slice none 0 0, .int .i64 x240002_1] 44 (0, 0)) (by (with_reducible repeat (first | refine blk_drewN ?_ _ | refine blk_drew ?_ | refine blk_alloc ?_ _)); exact BK239.out)) : gb248 ≠ gb239)); have n11_ := Aside0.mk ((by rw [hg]; exact Nat.ne_of_lt (blk_lt (g := gb240) (o := .cells #[u241000, u241001, .int .i64 x241002_5] 44 (0, 0)) (by (with_reducible repeat (first | refine blk_drewN ?_ _ | refine blk_drew ?_ | refine blk_alloc ?_ _)); exact BK240.out)) : gb240 ≠ gb248)); have n12_ := Aside0.mk ((by rw [hg]; exact Nat.ne_of_gt (blk_lt (g := gb240) (o := .cells #[u241000, u241001, .int .i64 x241002_5] 44 (0, 0)) (by (with_reducible repeat (first | refine blk_drewN ?_ _ | refine blk_drew ?_ | refine blk_alloc ?_ _)); exact BK240.out)) : gb248 ≠ gb240)); have n13_ := Aside0.mk ((by rw [hg]; exact Nat.ne_of_lt (blk_lt (g := gb244) (o := .cells #[.int .i64 t241, .int .i64 t242, .int .i64 t243] 60 (0, 0)) (by (with_reducible repeat (first | refine blk_drewN ?_ _ | refine blk_drew ?_ | refine blk_alloc ?_ _)); exact BK244.out)) : gb244 ≠ gb248)); have n14_ := Aside0.mk ((by rw [hg]; exact Nat.ne_of_gt (blk_lt (g := gb244) (o := .cells #[.int .i64 t241, .int .i64 t242, .int .i64 t243] 60 (0, 0)) (by (with_reducible repeat (first | refine blk_drewN ?_ _ | refine blk_drew ?_ | refine blk_alloc ?_ _)); exact BK244.out)) : gb248 ≠ gb244)); clear HO_241000; clear HO_241001; clear BK239; clear BK240; clear BK244; clear HB; have HO_241000 := n0_; have HO_241001 := n1_; have BK239 := n2_; have BK240 := n3_; have BK244 := n4_; have HB := n5_; have BK248 := n6_; have GW248 := n7_; have GE248 := n8_; have NB239_248 := n9_; have NB248_239 := n10_; have NB240_248 := n11_; have NB248_240 := n12_; have NB244_248 := n13_; have NB248_244 := n14_; clear n0_ n1_ n2_ n3_ n4_ n5_ n6_ n7_ n8_ n9_ n10_ n11_ n12_ n13_ n14_; clear hb hbox hg; have hnb57 := NB248_239.out; have hnc57 := NB239_248.out; have hnb58 := NB248_240.out; have hnc58 := NB240_248.out; have hnb59 := NB248_244.out; have hnc59 := NB244_248.out; have hcz60_0 : w56.cell? ⟨gb248, 0, none⟩ = some (.string (⟨#[]⟩ : ByteArray)) := (blk_cell BK248.out 0).trans rfl; have hcz60_1 : w56.cell? ⟨gb248, 1, none⟩ = some (.int .i64 0) := (blk_cell BK248.out 1).trans rfl; have hcz60_2 : w56.cell? ⟨gb248, 2, none⟩ = some (.int .i64 0) := (blk_cell BK248.out 2).trans rfl; have hfz60_0 := blk_frozen BK248.out 0; have hfz60_1 := blk_frozen BK248.out 1; have hfz60_2 := blk_frozen BK248.out 2; have hcz61_0 : w56.cell? ⟨gb244, 0, none⟩ = some (.int .i64 t241) := (blk_cell BK244.out 0).trans rfl; have hcz61_1 : w56.cell? ⟨gb244, 1, none⟩ = some (.int .i64 t242) := (blk_cell BK244.out 1).trans rfl; have hcz61_2 : w56.cell? ⟨gb244, 2, none⟩ = some (.int .i64 t243) := (blk_cell BK244.out 2).trans rfl; have hfz61_0 := blk_frozen BK244.out 0; have hfz61_1 := blk_frozen BK244.out 1; have hfz61_2 := blk_frozen BK244.out 2; have hcz62_0 : w56.cell? ⟨gb240, 0, none⟩ = some (u241000) := (blk_cell BK240.out 0).trans rfl; have hcz62_1 : w56.cell? ⟨gb240, 1, none⟩ = some (u241001) := (blk_cell BK240.out 1).trans rfl; have hcz62_2 : w56.cell? ⟨gb240, 2, none⟩ = some (.int .i64 x241002_5) := (blk_cell BK240.out 2).trans rfl; have hfz62_0 := blk_frozen BK240.out 0; have hfz62_1 := blk_frozen BK240.out 1; have hfz62_2 := blk_frozen BK240.out 2) | ((with_reducible refine gate_builtin (b := .append) (xs := #[.tmp 71, .tmp 74]) rfl ?_); at_builtin; refine Kd.R_append Kd.string (w0 := w) w.heap.size rfl (.tmp 71) (.tmp 74) 39 9 (.string ⟨#[]⟩) 16 rfl Try.underlying39 info9 rfl (by decide) (by omega) u241000 x241000_1 t245 [.string t245] (fun _ => True) (fun _ => False) rfl (by first | (go_simp; done) | (go_simp; rfl)) ?aP (fun _ hk => hk.elim) ?aF ?aO ?aB ?aS ?aL ?_; (case aP => exact rfl); (case aB => exact (by repeat (first | (with_reducible first | exact HB.out | apply below_alloc | apply pw_below_drewN | apply below_drew1 | refine below_set ?_ GE239.out | refine below_set ?_ GE240.out | refine below_set ?_ GE244.out | refine below_set ?_ GE248.out) | exact HB.out))); (case aF => exact (fun _ _ => trivial)); (case aO => exact (by (with_reducible repeat (first | apply Kd.R_alloc | apply Kd.R_drewN | apply Kd.R_drew)); exact Kd.R_mono (Kd.R_far (p := ⟨gb248, 2, none⟩) (Kd.R_far (p := ⟨gb248, 1, none⟩) (Kd.R_far (p := ⟨gb248, 0, none⟩) (Kd.R_types HO_241000.out BK248.out (by decide)) (fun _ hk => hk.2) (.string t245)) (fun _ hk => hk.2) (.int .i64 t246)) (fun _ hk => hk.2) (.int .i64 t247)) (fun _ hk => trivial))); (case aS => exact (below_size (by repeat (first | (with_reducible first | exact HB.out | apply below_alloc | apply pw_below_drewN | apply below_drew1 | refine below_set ?_ GE239.out | refine below_set ?_ GE240.out | refine below_set ?_ GE244.out | refine below_set ?_ GE248.out) | exact HB.out)))); (case aL => have := LMc48.out; omega); intro v250 w63 ho hb hg hat; rw [← Ny249.out] at ho; have n0_ := Aside0.mk (Kd.R_over' (by (with_reducible repeat (first | apply Kd.R_alloc | apply Kd.R_drewN | apply Kd.R_drew)); exact (Kd.R_mono (Kd.R_far (p := ⟨gb248, 2, none⟩) (Kd.R_far (p := ⟨gb248, 1, none⟩) (Kd.R_far (p := ⟨gb248, 0, none⟩) (Kd.R_types HO_241001.out BK248.out (by decide)) (fun _ hk => hk.2) (.string t245)) (fun _ hk => hk.2) (.int .i64 t246)) (fun _ hk => hk.2) (.int .i64 t247)) (fun _ h_ => h_.1))) (Kd.R_typed (by (with_reducible repeat (first | apply Kd.R_alloc | apply Kd.R_drewN | apply Kd.R_drew)); exact (Kd.R_mono (Kd.R_far (p := ⟨gb248, 2, none⟩) (Kd.R_far (p := ⟨gb248, 1, none⟩) (Kd.R_far (p := ⟨gb248, 0, none⟩) (Kd.R_types HO_241000.out BK248.out (by decide)) (fun _ hk => hk.2) (.string t245)) (fun _ hk => hk.2) (.int .i64 t246)) (fun _ hk => hk.2) (.int .i64 t247)) (fun _ h_ => h_.1)))) (by decide) hg); have n1_ := Aside0.mk (blk_grown (g := gb239) (o := .cells #[.slice none 0 0, .slice none 0 0, .int .i64 x240002_1] 44 (0, 0)) (by (with_reducible repeat (first | refine blk_drewN ?_ _ | refine blk_drew ?_ | refine blk_alloc ?_ _)); refine blk_far ?_ NB239_248.out _; (with_reducible repeat (first | refine blk_drewN ?_ _ | refine blk_drew ?_ | refine blk_alloc ?_ _)); refine blk_far ?_ NB239_248.out _; (with_reducible repeat (first | refine blk_drewN ?_ _ | refine blk_drew ?_ | refine blk_alloc ?_ _)); refine blk_far ?_ NB239_248.out _; (with_reducible repeat (first | refine blk_drewN ?_ _ | refine blk_drew ?_ | refine blk_alloc ?_ _)); exact BK239.out) hg (Kd.R_ne HO_241000.out BK239.out (by decide))); have n2_ := Aside0.mk (blk_grown (g := gb240) (o := .cells #[u241000, u241001, .int .i64 x241002_5] 44 (0, 0)) (by (with_reducible repeat (first | refine blk_drewN ?_ _ | refine blk_drew ?_ | refine blk_alloc ?_ _)); refine blk_far ?_ NB240_248.out _; (with_reducible repeat (first | refine blk_drewN ?_ _ | refine blk_drew ?_ | refine blk_alloc ?_ _)); refine blk_far ?_ NB240_248.out _; (with_reducible repeat (first | refine blk_drewN ?_ _ | refine blk_drew ?_ | refine blk_alloc ?_ _)); refine blk_far ?_ NB240_248.out _; (with_reducible repeat (first | refine blk_drewN ?_ _ | refine blk_drew ?_ | refine blk_alloc ?_ _)); exact BK240.out) hg (Kd.R_ne HO_241000.out BK240.out (by decide))); have n3_ := Aside0.mk (blk_grown (g := gb244) (o := .cells #[.int .i64 t241, .int .i64 t242, .int .i64 t243] 60 (0, 0)) (by (with_reducible repeat (first | refine blk_drewN ?_ _ | refine blk_drew ?_ | refine blk_alloc ?_ _)); refine blk_far ?_ NB244_248.out _; (with_reducible repeat (first | refine blk_drewN ?_ _ | refine blk_drew ?_ | refine blk_alloc ?_ _)); refine blk_far ?_ NB244_248.out _; (with_reducible repeat (first | refine blk_drewN ?_ _ | refine blk_drew ?_ | refine blk_alloc ?_ _)); refine blk_far ?_ NB244_248.out _; (with_reducible repeat (first | refine blk_drewN ?_ _ | refine blk_drew ?_ | refine blk_alloc ?_ _)); exact BK244.out) hg (Kd.R_ne HO_241000.out BK244.out (by decide))); have n4_ := Aside0.mk (blk_grown (g := gb248) (o := .cells #[.string t245, .int .i64 t246, .int .i64 t247] 33 (0, 0)) (by (with_reducible repeat (first | refine blk_drewN ?_ _ | refine blk_drew ?_ | refine blk_alloc ?_ _)); refine blk_put (cs := #[.string t245, .int .i64 t246, .int .i64 0]) ?_ 2 _ rfl; (with_reducible repeat (first | refine blk_drewN ?_ _ | refine blk_drew ?_ | refine blk_alloc ?_ _)); refine blk_put (cs := #[.string t245, .int .i64 0, .int .i64 0]) ?_ 1 _ rfl; (with_reducible repeat (first | refine blk_drewN ?_ _ | refine blk_drew ?_ | refine blk_alloc ?_ _)); refine blk_put (cs := #[.string (⟨#[]⟩ : ByteArray), .int .i64 0, .int .i64 0]) ?_ 0 _ rfl; (with_reducible repeat (first | refine blk_drewN ?_ _ | refine blk_drew ?_ | refine blk_alloc ?_ _)); exact BK248.out) hg (Kd.R_ne HO_241000.out BK248.out (by decide))); have n5_ := Aside0.mk (hb); have n6_ := Aside0.mk (ho); clear HO_241001; clear BK239; clear BK240; clear BK244; clear BK248; clear HB; clear HO_241000; have HO_241001 := n0_; have BK239 := n1_; have BK240 := n2_; have BK244 := n3_; have BK248 := n4_; have HB := n5_; have HO251 := n6_; clear n0_ n1_ n2_ n3_ n4_ n5_ n6_; clear ho hb hg hat; obtain ⟨Ao64, co64, eo64⟩ := Kd.R_slice HO251.out; subst eo64; have hcz65_0 : w63.cell? ⟨gb240, 0, none⟩ = some (u241000) := (blk_cell BK240.out 0).trans rfl; have hcz65_1 : w63.cell? ⟨gb240, 1, none⟩ = some (u241001) := (blk_cell BK240.out 1).trans rfl; have hcz65_2 : w63.cell? ⟨gb240, 2, none⟩ = some (.int .i64 x241002_5) := (blk_cell BK240.out 2).trans rfl; have hfz65_0 := blk_frozen BK240.out 0; have hfz65_1 := blk_frozen BK240.out 1; have hfz65_2 := blk_frozen BK240.out 2) | ((with_reducible refine gate_builtin (b := .append) (xs := #[.tmp 78, .tmp 80]) rfl ?_); at_builtin; refine Kd.R_append (Kd.int .i64) (w0 := w) w.heap.size rfl (.tmp 78) (.tmp 80) 42 3 (.int .i64 0) 8 rfl Try.underlying42 info3 rfl (by decide) (by omega) u241001 x241001_1 (wrap64 ((wrap64 (t242 + t241)) + 4)) [.int .i64 (wrap64 ((wrap64 (t242 + t241)) + 4))] (fun _ => True) (fun _ => False) rfl (by first | (go_simp; done) | (go_simp; rfl)) ?aP (fun _ hk => hk.elim) ?aF ?aO ?aB ?aS ?aL ?_; (case aP => exact rfl); (case aB => exact (by repeat (first | (with_reducible first | exact HB.out | apply below_alloc | apply pw_below_drewN | apply below_drew1 | refine below_set ?_ GE239.out | refine below_set ?_ GE240.out | refine below_set ?_ GE244.out | refine below_set ?_ GE248.out) | exact HB.out))); (case aF => exact (fun _ _ => trivial)); (case aO => exact (by (with_reducible repeat (first | apply Kd.R_alloc | apply Kd.R_drewN | apply Kd.R_drew)); exact Kd.R_mono (Kd.R_far (p := ⟨gb240, 0, none⟩) (Kd.R_types HO_241001.out BK240.out (by decide)) (fun _ hk => hk.2) (.slice Ao64 y249.length co64)) (fun _ hk => trivial))); (case aS => exact (below_size (by repeat (first | (with_reducible first | exact HB.out | apply below_alloc | apply pw_below_drewN | apply below_drew1 | refine below_set ?_ GE239.out | refine below_set ?_ GE240.out | refine below_set ?_ GE244.out | refine below_set ?_ GE248.out) | exact HB.out)))); (case aL => have := LMc49.out; omega); intro v253 w66 ho hb hg hat; rw [← Ny252.out] at ho; have n0_ := Aside0.mk (blk_grown (g := gb239) (o := .cells #[.slice none 0 0, .slice none 0 0, .int .i64 x240002_1] 44 (0, 0)) (by (with_reducible repeat (first | refine blk_drewN ?_ _ | refine blk_drew ?_ | refine blk_alloc ?_ _)); refine blk_far ?_ NB239_240.out _; (with_reducible repeat (first | refine blk_drewN ?_ _ | refine blk_drew ?_ | refine blk_alloc ?_ _)); exact BK239.out) hg (Kd.R_ne HO_241001.out BK239.out (by decide))); have n1_ := Aside0.mk (blk_grown (g := gb240) (o := .cells #[.slice Ao64 y249.length co64, u241001, .int .i64 x241002_5] 44 (0, 0)) (by (with_reducible repeat (first | refine blk_drewN ?_ _ | refine blk_drew ?_ | refine blk_alloc ?_ _)); refine blk_put (cs := #[u241000, u241001, .int .i64 x241002_5]) ?_ 0 _ rfl; (with_reducible repeat (first | refine blk_drewN ?_ _ | refine blk_drew ?_ | refine blk_alloc ?_ _)); exact BK240.out) hg (Kd.R_ne HO_241001.out BK240.out (by decide))); have n2_ := Aside0.mk (blk_grown (g := gb244) (o := .cells #[.int .i64 t241, .int .i64 t242, .int .i64 t243] 60 (0, 0)) (by (with_reducible repeat (first | refine blk_drewN ?_ _ | refine blk_drew ?_ | refine blk_alloc ?_ _)); refine blk_far ?_ NB244_240.out _; (with_reducible repeat (first | refine blk_drewN ?_ _ | refine blk_drew ?_ | refine blk_alloc ?_ _)); exact BK244.out) hg (Kd.R_ne HO_241001.out BK244.out (by decide))); have n3_ := Aside0.mk (blk_grown (g := gb248) (o := .cells #[.string t245, .int .i64 t246, .int .i64 t247] 33 (0, 0)) (by (with_reducible repeat (first | refine blk_drewN ?_ _ | refine blk_drew ?_ | refine blk_alloc ?_ _)); refine blk_far ?_ NB248_240.out _; (with_reducible repeat (first | refine blk_drewN ?_ _ | refine blk_drew ?_ | refine blk_alloc ?_ _)); exact BK248.out) hg (Kd.R_ne HO_241001.out BK248.out (by decide))); have n4_ := Aside0.mk (Kd.R_over' (by (with_reducible repeat (first | apply Kd.R_alloc | apply Kd.R_drewN | apply Kd.R_drew)); exact (Kd.R_mono (Kd.R_far (p := ⟨gb240, 0, none⟩) (Kd.R_types HO251.out BK240.out (by decide)) (fun _ hk => hk.2) (.slice Ao64 y249.length co64)) (fun _ h_ => h_.1))) (Kd.R_typed (by (with_reducible repeat (first | apply Kd.R_alloc | apply Kd.R_drewN | apply Kd.R_drew)); exact (Kd.R_mono (Kd.R_far (p := ⟨gb240, 0, none⟩) (Kd.R_types HO_241001.out BK240.out (by decide)) (fun _ hk => hk.2) (.slice Ao64 y249.length co64)) (fun _ h_ => h_.1)))) (by decide) hg); have n5_ := Aside0.mk (hb); have n6_ := Aside0.mk (ho); clear BK239; clear BK240; clear BK244; clear BK248; clear HO251; clear HB; clear HO_241001; have BK239 := n0_; have BK240 := n1_; have BK244 := n2_; have BK248 := n3_; have HO251 := n4_; have HB := n5_; have HO254 := n6_; clear n0_ n1_ n2_ n3_ n4_ n5_ n6_; clear ho hb hg hat; obtain ⟨Ao67, co67, eo67⟩ := Kd.R_slice HO254.out; subst eo67; have hcz68_0 : w66.cell? ⟨gb240, 0, none⟩ = some (.slice Ao64 y249.length co64) := (blk_cell BK240.out 0).trans rfl; have hcz68_1 : w66.cell? ⟨gb240, 1, none⟩ = some (u241001) := (blk_cell BK240.out 1).trans rfl; have hcz68_2 : w66.cell? ⟨gb240, 2, none⟩ = some (.int .i64 x241002_5) := (blk_cell BK240.out 2).trans rfl; have hfz68_0 := blk_frozen BK240.out 0; have hfz68_1 := blk_frozen BK240.out 1; have hfz68_2 := blk_frozen BK240.out 2))
             go_roundg kj5
             case measure => have := HK1.out; have := HJ5.out; omega
             case rel => exact ⟨(wrap64 ((wrap64 (t242 + t241)) + 4)), (x240002_1), (y249), (y252), (x241002_5), (.slice Ao64 y249.length co64), (.slice Ao67 y252.length co67), (by first | rfl | (simp; done) | (simp [*]; done)), H', ⟨by have := HK1.out; have := HJ5.out; omega⟩, ⟨by (with_reducible repeat (first | apply Kd.R_alloc | apply Kd.R_drewN | apply Kd.R_drew)); exact Kd.R_mono (Kd.R_far (p := ⟨gb240, 1, none⟩) (Kd.R_types HO251.out BK240.out (by decide)) (fun _ hk => hk.2) (.slice Ao67 y252.length co67)) (fun _ hk => trivial)⟩, ⟨by (with_reducible repeat (first | apply Kd.R_alloc | apply Kd.R_drewN | apply Kd.R_drew)); exact Kd.R_mono (Kd.R_far (p := ⟨gb240, 1, none⟩) (Kd.R_types HO254.out BK240.out (by decide)) (fun _ hk => hk.2) (.slice Ao67 y252.length co67)) (fun _ hk => trivial)⟩, ⟨by (with_reducible repeat (first | refine blk_drewN ?_ _ | refine blk_drew ?_ | refine blk_alloc ?_ _)); refine blk_far ?_ NB239_240.out _; (with_reducible repeat (first | refine blk_drewN ?_ _ | refine blk_drew ?_ | refine blk_alloc ?_ _)); exact BK239.out⟩, ⟨by (with_reducible repeat (first | refine blk_drewN ?_ _ | refine blk_drew ?_ | refine blk_alloc ?_ _)); refine blk_put (cs := #[.slice Ao64 y249.length co64, u241001, .int .i64 x241002_5]) ?_ 1 _ rfl; (with_reducible repeat (first | refine blk_drewN ?_ _ | refine blk_drew ?_ | refine blk_alloc ?_ _)); exact BK240.out⟩, ⟨by repeat (first | (with_reducible first | exact HB.out | apply below_alloc | apply pw_below_drewN | apply below_drew1 | refine below_set ?_ GE239.out | refine below_set ?_ GE240.out | refine below_set ?_ GE244.out | refine below_set ?_ GE248.out) | exact HB.out)⟩⟩
            ·rw [if_neg c49] at H
             exact absurd H (by simp)
           ·rw [if_neg c48] at H
            exact absurd H (by simp)
          ·rw [if_neg c47] at H
           have c47b0 : (t247 == 0) = false := beq_eq_false_iff_ne.mpr c47
           have c47b1 : (t247 != 0) = true := bne_iff_ne.mpr c47
           simp only [Option.some.injEq, Prod.mk.injEq] at H
           obtain ⟨rfl, rfl, rfl⟩ := H
           have hnb69 := NB240_239.out
           have hnc69 := NB239_240.out
           have hnb70 := NB240_244.out
           have hnc70 := NB244_240.out
           have hcz71_0 : wc.cell? ⟨gb240, 0, none⟩ = some (u241000) := (blk_cell BK240.out 0).trans rfl
           have hcz71_1 : wc.cell? ⟨gb240, 1, none⟩ = some (u241001) := (blk_cell BK240.out 1).trans rfl
           have hcz71_2 : wc.cell? ⟨gb240, 2, none⟩ = some (.int .i64 x241002_5) := (blk_cell BK240.out 2).trans rfl
           have hfz71_0 := blk_frozen BK240.out 0
           have hfz71_1 := blk_frozen BK240.out 1
           have hfz71_2 := blk_frozen BK240.out 2
           have hnb72 := NB244_239.out
           have hnc72 := NB239_244.out
           have hcz73_0 : wc.cell? ⟨gb244, 0, none⟩ = some (.int .i64 t241) := (blk_cell BK244.out 0).trans rfl
           have hcz73_1 : wc.cell? ⟨gb244, 1, none⟩ = some (.int .i64 t242) := (blk_cell BK244.out 1).trans rfl
           have hcz73_2 : wc.cell? ⟨gb244, 2, none⟩ = some (.int .i64 t243) := (blk_cell BK244.out 2).trans rfl
           have hfz73_0 := blk_frozen BK244.out 0
           have hfz73_1 := blk_frozen BK244.out 1
           have hfz73_2 := blk_frozen BK244.out 2
           go_wp2_with (first | ((with_reducible refine gate_callee (f := 16) rfl ?_); refine goesL_ (some 56) rfl rfl Try.func16 (by kernel_rfl) rfl #[.string (a0.extract (t242 : Int).toNat ((wrap64 ((wrap64 (t242 + t241)) + 4)) : Int).toNat)] rfl (by (try simp only [List.map_toArray, List.map_cons, List.map_nil]); first | done | rfl | (simp only [List.length_drop, List.length_take]; rfl)) ?_; (with_reducible refine (boomerangref1_GetSum.calls kj5 (a0.extract (t242 : Int).toNat ((wrap64 ((wrap64 (t242 + t241)) + 4)) : Int).toNat) t245 t246 t247 _ A46.out).mono ?_); rintro e w74 ⟨rfl, hb⟩; refine ⟨_, rfl, ?_⟩; have n0_ := Aside0.mk (Kd.R_below (by (with_reducible repeat (first | apply Kd.R_alloc | apply Kd.R_drewN | apply Kd.R_drew)); exact HO_241000.out) hb); have n1_ := Aside0.mk (Kd.R_below (by (with_reducible repeat (first | apply Kd.R_alloc | apply Kd.R_drewN | apply Kd.R_drew)); exact HO_241001.out) hb); have n2_ := Aside0.mk (blk_below (g := gb239) (o := .cells #[.slice none 0 0, .slice none 0 0, .int .i64 x240002_1] 44 (0, 0)) (by (with_reducible repeat (first | refine blk_drewN ?_ _ | refine blk_drew ?_ | refine blk_alloc ?_ _)); exact BK239.out) hb); have n3_ := Aside0.mk (blk_below (g := gb240) (o := .cells #[u241000, u241001, .int .i64 x241002_5] 44 (0, 0)) (by (with_reducible repeat (first | refine blk_drewN ?_ _ | refine blk_drew ?_ | refine blk_alloc ?_ _)); exact BK240.out) hb); have n4_ := Aside0.mk (blk_below (g := gb244) (o := .cells #[.int .i64 t241, .int .i64 t242, .int .i64 t243] 60 (0, 0)) (by (with_reducible repeat (first | refine blk_drewN ?_ _ | refine blk_drew ?_ | refine blk_alloc ?_ _)); exact BK244.out) hb); have n5_ := Aside0.mk (below_step (by repeat (first | (with_reducible first | exact HB.out | apply below_alloc | apply pw_below_drewN | apply below_drew1 | refine below_set ?_ GE239.out | refine below_set ?_ GE240.out | refine below_set ?_ GE244.out) | exact HB.out)) hb); clear HO_241000; clear HO_241001; clear BK239; clear BK240; clear BK244; clear HB; have HO_241000 := n0_; have HO_241001 := n1_; have BK239 := n2_; have BK240 := n3_; have BK244 := n4_; have HB := n5_; clear n0_ n1_ n2_ n3_ n4_ n5_; (try clear hb); (try clear hb2); (try clear hk); (try clear hi)) | ((with_reducible refine gate_dst (N := 6) rfl ?_); refine box_event ?hg (N := 6) ?hd (cs := #[.string (⟨#[]⟩ : ByteArray), .int .i64 0, .int .i64 0]) (t := 33) ?hr ?_; (case hd => rfl); (case hg => rfl); (case hr => first | (go_simp; done) | (go_simp; rfl)); intro gb248 hg w75 hbox hb; have n0_ := Aside0.mk (Kd.R_below (by (with_reducible repeat (first | apply Kd.R_alloc | apply Kd.R_drewN | apply Kd.R_drew)); exact HO_241000.out) hb); have n1_ := Aside0.mk (Kd.R_below (by (with_reducible repeat (first | apply Kd.R_alloc | apply Kd.R_drewN | apply Kd.R_drew)); exact HO_241001.out) hb); have n2_ := Aside0.mk (blk_below (g := gb239) (o := .cells #[.slice none 0 0, .slice none 0 0, .int .i64 x240002_1] 44 (0, 0)) (by (with_reducible repeat (first | refine blk_drewN ?_ _ | refine blk_drew ?_ | refine blk_alloc ?_ _)); exact BK239.out) hb); have n3_ := Aside0.mk (blk_below (g := gb240) (o := .cells #[u241000, u241001, .int .i64 x241002_5] 44 (0, 0)) (by (with_reducible repeat (first | refine blk_drewN ?_ _ | refine blk_drew ?_ | refine blk_alloc ?_ _)); exact BK240.out) hb); have n4_ := Aside0.mk (blk_below (g := gb244) (o := .cells #[.int .i64 t241, .int .i64 t242, .int .i64 t243] 60 (0, 0)) (by (with_reducible repeat (first | refine blk_drewN ?_ _ | refine blk_drew ?_ | refine blk_alloc ?_ _)); exact BK244.out) hb); have n5_ := Aside0.mk (below_step (by repeat (first | (with_reducible first | exact HB.out | apply below_alloc | apply pw_below_drewN | apply below_drew1 | refine below_set ?_ GE239.out | refine below_set ?_ GE240.out | refine below_set ?_ GE244.out) | exact HB.out)) hb); have n6_ := Aside0.mk (hbox); have n7_ := Aside0.mk ((by rw [hg]; exact (below_size (by repeat (first | (with_reducible first | exact HB.out | apply below_alloc | apply pw_below_drewN | apply below_drew1 | refine below_set ?_ GE239.out | refine below_set ?_ GE240.out | refine below_set ?_ GE244.out) | exact HB.out))) : w.heap.size ≤ gb248)); have n8_ := Aside0.mk ((by rw [hg]; exact (below_size (by repeat (first | (with_reducible first | exact HB.out | apply below_alloc | apply pw_below_drewN | apply below_drew1 | refine below_set ?_ GE239.out | refine below_set ?_ GE240.out | refine below_set ?_ GE244.out) | exact HB.out))) : w.heap.size ≤ gb248)); have n9_ := Aside0.mk ((by rw [hg]; exact Nat.ne_of_lt (blk_lt (g := gb239) (o := .cells #[.slice none 0 0, .slice none 0 0, .int .i64 x240002_1] 44 (0, 0)) (by (with_reducible repeat (first | refine blk_drewN ?_ _ | refine blk_drew ?_ | refine blk_alloc ?_ _)); exact BK239.out)) : gb239 ≠ gb248)); have n10_ := Aside0.mk ((by rw [hg]; exact Nat.ne_of_gt (blk_lt (g := gb239) (o := .cells #[.slice none 0 0, .slice none 0 0, .int .i64 x240002_1] 44 (0, 0)) (by (with_reducible repeat (first | refine blk_drewN ?_ _ | refine blk_drew ?_ | refine blk_alloc ?_ _)); exact BK239.out)) : gb248 ≠ gb239)); have n11_ := Aside0.mk ((by rw [hg]; exact Nat.ne_of_lt (blk_lt (g := gb240) (o := .cells #[u241000, u241001, .int .i64 x241002_5] 44 (0, 0)) (by (with_reducible repeat (first | refine blk_drewN ?_ _ | refine blk_drew ?_ | refine blk_alloc ?_ _)); exact BK240.out)) : gb240 ≠ gb248)); have n12_ := Aside0.mk ((by rw [hg]; exact Nat.ne_of_gt (blk_lt (g := gb240) (o := .cells #[u241000, u241001, .int .i64 x241002_5] 44 (0, 0)) (by (with_reducible repeat (first | refine blk_drewN ?_ _ | refine blk_drew ?_ | refine blk_alloc ?_ _)); exact BK240.out)) : gb248 ≠ gb240)); have n13_ := Aside0.mk ((by rw [hg]; exact Nat.ne_of_lt (blk_lt (g := gb244) (o := .cells #[.int .i64 t241, .int .i64 t242, .int .i64 t243] 60 (0, 0)) (by (with_reducible repeat (first | refine blk_drewN ?_ _ | refine blk_drew ?_ | refine blk_alloc ?_ _)); exact BK244.out)) : gb244 ≠ gb248)); have n14_ := Aside0.mk ((by rw [hg]; exact Nat.ne_of_gt (blk_lt (g := gb244) (o := .cells #[.int .i64 t241, .int .i64 t242, .int .i64 t243] 60 (0, 0)) (by (with_reducible repeat (first | refine blk_drewN ?_ _ | refine blk_drew ?_ | refine blk_alloc ?_ _)); exact BK244.out)) : gb248 ≠ gb244)); clear HO_241000; clear HO_241001; clear BK239; clear BK240; clear BK244; clear HB; have HO_241000 := n0_; have HO_241001 := n1_; have BK239 := n2_; have BK240 := n3_; have BK244 := n4_; have HB := n5_; have BK248 := n6_; have GW248 := n7_; have GE248 := n8_; have NB239_248 := n9_; have NB248_239 := n10_; have NB240_248 := n11_; have NB248_240 := n12_; have NB244_248 := n13_; have NB248_244 := n14_; clear n0_ n1_ n2_ n3_ n4_ n5_ n6_ n7_ n8_ n9_ n10_ n11_ n12_ n13_ n14_; clear hb hbox hg; have hnb76 := NB248_239.out; have hnc76 := NB239_248.out; have hnb77 := NB248_240.out; have hnc77 := NB240_248.out; have hnb78 := NB248_244.out; have hnc78 := NB244_248.out; have hcz79_0 : w75.cell? ⟨gb248, 0, none⟩ = some (.string (⟨#[]⟩ : ByteArray)) := (blk_cell BK248.out 0).trans rfl; have hcz79_1 : w75.cell? ⟨gb248, 1, none⟩ = some (.int .i64 0) := (blk_cell BK248.out 1).trans rfl; have hcz79_2 : w75.cell? ⟨gb248, 2, none⟩ = some (.int .i64 0) := (blk_cell BK248.out 2).trans rfl; have hfz79_0 := blk_frozen BK248.out 0; have hfz79_1 := blk_frozen BK248.out 1; have hfz79_2 := blk_frozen BK248.out 2; have hcz80_0 : w75.cell? ⟨gb240, 0, none⟩ = some (u241000) := (blk_cell BK240.out 0).trans rfl; have hcz80_1 : w75.cell? ⟨gb240, 1, none⟩ = some (u241001) := (blk_cell BK240.out 1).trans rfl; have hcz80_2 : w75.cell? ⟨gb240, 2, none⟩ = some (.int .i64 x241002_5) := (blk_cell BK240.out 2).trans rfl; have hfz80_0 := blk_frozen BK240.out 0; have hfz80_1 := blk_frozen BK240.out 1; have hfz80_2 := blk_frozen BK240.out 2; obtain ⟨Ao81, co81, eo81⟩ := Kd.R_slice HO_241000.out; subst eo81; have hcz82_0 : w75.cell? ⟨gb239, 0, none⟩ = some (.slice none 0 0) := (blk_cell BK239.out 0).trans rfl; have hcz82_1 : w75.cell? ⟨gb239, 1, none⟩ = some (.slice none 0 0) := (blk_cell BK239.out 1).trans rfl; have hcz82_2 : w75.cell? ⟨gb239, 2, none⟩ = some (.int .i64 x240002_1) := (blk_cell BK239.out 2).trans rfl; have hfz82_0 := blk_frozen BK239.out 0; have hfz82_1 := blk_frozen BK239.out 1; have hfz82_2 := blk_frozen BK239.out 2; obtain ⟨Ao83, co83, eo83⟩ := Kd.R_slice HO_241001.out; subst eo83))
           refine bodyPost_ret (results_cell_row rfl _ _ gb239 44 #[.slice Ao81 x241000_1.length co81, .slice Ao83 x241001_1.length co83, .int .i64 t247] (0, 0) _ rfl (by (with_reducible repeat (first | refine blk_drewN ?_ _ | refine blk_drew ?_ | refine blk_alloc ?_ _)); refine blk_put (cs := #[.slice Ao81 x241000_1.length co81, .slice Ao83 x241001_1.length co83, .int .i64 x240002_1]) ?_ 2 _ rfl; (with_reducible repeat (first | refine blk_drewN ?_ _ | refine blk_drew ?_ | refine blk_alloc ?_ _)); refine blk_put (cs := #[.slice Ao81 x241000_1.length co81, .slice none 0 0, .int .i64 x240002_1]) ?_ 1 _ rfl; (with_reducible repeat (first | refine blk_drewN ?_ _ | refine blk_drew ?_ | refine blk_alloc ?_ _)); refine blk_put (cs := #[.slice none 0 0, .slice none 0 0, .int .i64 x240002_1]) ?_ 0 _ rfl; (with_reducible repeat (first | refine blk_drewN ?_ _ | refine blk_drew ?_ | refine blk_alloc ?_ _)); refine blk_far ?_ NB239_240.out _; (with_reducible repeat (first | refine blk_drewN ?_ _ | refine blk_drew ?_ | refine blk_alloc ?_ _)); refine blk_far ?_ NB239_248.out _; (with_reducible repeat (first | refine blk_drewN ?_ _ | refine blk_drew ?_ | refine blk_alloc ?_ _)); refine blk_far ?_ NB239_248.out _; (with_reducible repeat (first | refine blk_drewN ?_ _ | refine blk_drew ?_ | refine blk_alloc ?_ _)); refine blk_far ?_ NB239_248.out _; (with_reducible repeat (first | refine blk_drewN ?_ _ | refine blk_drew ?_ | refine blk_alloc ?_ _)); exact BK239.out) Try.underlying44 rfl (by kernel_rfl)) rfl ?_
           exact ⟨_, _, by first | rfl | (simp [errW_none, errW_some] <;> rfl) | (simp [*, errW_none, errW_some] <;> rfl), by (with_reducible repeat (first | apply Kd.R_alloc | apply Kd.R_drewN | apply Kd.R_drew)); exact Kd.R_mono (Kd.R_far (p := ⟨gb239, 2, none⟩) (Kd.R_far (p := ⟨gb239, 1, none⟩) (Kd.R_far (p := ⟨gb239, 0, none⟩) (Kd.R_far (p := ⟨gb240, 2, none⟩) (Kd.R_far (p := ⟨gb248, 2, none⟩) (Kd.R_far (p := ⟨gb248, 1, none⟩) (Kd.R_far (p := ⟨gb248, 0, none⟩) (Kd.R_types (Kd.R_types (Kd.R_types HO_241000.out BK248.out (by decide)) BK240.out (by decide)) BK239.out (by decide)) (fun _ hk => hk.1.1.2) (.string t245)) (fun _ hk => hk.1.1.2) (.int .i64 t246)) (fun _ hk => hk.1.1.2) (.int .i64 t247)) (fun _ hk => hk.1.2) (.int .i64 t247)) (fun _ hk => hk.2) (.slice Ao81 x241000_1.length co81)) (fun _ hk => hk.2) (.slice Ao83 x241001_1.length co83)) (fun _ hk => hk.2) (.int .i64 t247)) (fun _ hk => trivial), by (with_reducible repeat (first | apply Kd.R_alloc | apply Kd.R_drewN | apply Kd.R_drew)); exact Kd.R_mono (Kd.R_far (p := ⟨gb239, 2, none⟩) (Kd.R_far (p := ⟨gb239, 1, none⟩) (Kd.R_far (p := ⟨gb239, 0, none⟩) (Kd.R_far (p := ⟨gb240, 2, none⟩) (Kd.R_far (p := ⟨gb248, 2, none⟩) (Kd.R_far (p := ⟨gb248, 1, none⟩) (Kd.R_far (p := ⟨gb248, 0, none⟩) (Kd.R_types (Kd.R_types (Kd.R_types HO_241001.out BK248.out (by decide)) BK240.out (by decide)) BK239.out (by decide)) (fun _ hk => hk.1.1.2) (.string t245)) (fun _ hk => hk.1.1.2) (.int .i64 t246)) (fun _ hk => hk.1.1.2) (.int .i64 t247)) (fun _ hk => hk.1.2) (.int .i64 t247)) (fun _ hk => hk.2) (.slice Ao81 x241000_1.length co81)) (fun _ hk => hk.2) (.slice Ao83 x241001_1.length co83)) (fun _ hk => hk.2) (.int .i64 t247)) (fun _ hk => trivial), by repeat (first | (with_reducible first | exact HB.out | apply below_alloc | apply pw_below_drewN | apply below_drew1 | refine below_set ?_ GE239.out | refine below_set ?_ GE240.out | refine below_set ?_ GE244.out | refine below_set ?_ GE248.out) | exact HB.out)⟩
         ·rw [if_neg c45] at H
          exact absurd H (by simp)
        ·rw [if_neg c44] at H
         exact absurd H (by simp)
       ·rw [if_neg c43] at H
        exact absurd H (by simp)
      ·rw [if_neg c42] at H
       have c42b0 : (x241002_5 == 0) = false := beq_eq_false_iff_ne.mpr c42
       have c42b1 : (x241002_5 != 0) = true := bne_iff_ne.mpr c42
       simp only [Option.some.injEq, Prod.mk.injEq] at H
       obtain ⟨rfl, rfl, rfl⟩ := H
       have hnb84 := NB240_239.out
       have hnc84 := NB239_240.out
       have hnb85 := NB240_244.out
       have hnc85 := NB244_240.out
       have hcz86_0 : wc.cell? ⟨gb240, 0, none⟩ = some (u241000) := (blk_cell BK240.out 0).trans rfl
       have hcz86_1 : wc.cell? ⟨gb240, 1, none⟩ = some (u241001) := (blk_cell BK240.out 1).trans rfl
       have hcz86_2 : wc.cell? ⟨gb240, 2, none⟩ = some (.int .i64 x241002_5) := (blk_cell BK240.out 2).trans rfl
       have hfz86_0 := blk_frozen BK240.out 0
       have hfz86_1 := blk_frozen BK240.out 1
       have hfz86_2 := blk_frozen BK240.out 2
       obtain ⟨Ao87, co87, eo87⟩ := Kd.R_slice HO_241000.out
       subst eo87
       have hnb88 := NB239_244.out
       have hnc88 := NB244_239.out
       have hcz89_0 : wc.cell? ⟨gb239, 0, none⟩ = some (.slice none 0 0) := (blk_cell BK239.out 0).trans rfl
       have hcz89_1 : wc.cell? ⟨gb239, 1, none⟩ = some (.slice none 0 0) := (blk_cell BK239.out 1).trans rfl
       have hcz89_2 : wc.cell? ⟨gb239, 2, none⟩ = some (.int .i64 x240002_1) := (blk_cell BK239.out 2).trans rfl
       have hfz89_0 := blk_frozen BK239.out 0
       have hfz89_1 := blk_frozen BK239.out 1
       have hfz89_2 := blk_frozen BK239.out 2
       obtain ⟨Ao90, co90, eo90⟩ := Kd.R_slice HO_241001.out
       subst eo90
       go_wp2
       refine bodyPost_ret (results_cell_row rfl _ _ gb239 44 #[.slice Ao87 x241000_1.length co87, .slice Ao90 x241001_1.length co90, .int .i64 x241002_5] (0, 0) _ rfl (by (with_reducible repeat (first | refine blk_drewN ?_ _ | refine blk_drew ?_ | refine blk_alloc ?_ _)); refine blk_put (cs := #[.slice Ao87 x241000_1.length co87, .slice Ao90 x241001_1.length co90, .int .i64 x240002_1]) ?_ 2 _ rfl; (with_reducible repeat (first | refine blk_drewN ?_ _ | refine blk_drew ?_ | refine blk_alloc ?_ _)); refine blk_put (cs := #[.slice Ao87 x241000_1.length co87, .slice none 0 0, .int .i64 x240002_1]) ?_ 1 _ rfl; (with_reducible repeat (first | refine blk_drewN ?_ _ | refine blk_drew ?_ | refine blk_alloc ?_ _)); refine blk_put (cs := #[.slice none 0 0, .slice none 0 0, .int .i64 x240002_1]) ?_ 0 _ rfl; (with_reducible repeat (first | refine blk_drewN ?_ _ | refine blk_drew ?_ | refine blk_alloc ?_ _)); exact BK239.out) Try.underlying44 rfl (by kernel_rfl)) rfl ?_
       exact ⟨_, _, by first | rfl | (simp [errW_none, errW_some] <;> rfl) | (simp [*, errW_none, errW_some] <;> rfl), by (with_reducible repeat (first | apply Kd.R_alloc | apply Kd.R_drewN | apply Kd.R_drew)); exact Kd.R_mono (Kd.R_far (p := ⟨gb239, 2, none⟩) (Kd.R_far (p := ⟨gb239, 1, none⟩) (Kd.R_far (p := ⟨gb239, 0, none⟩) (Kd.R_types HO_241000.out BK239.out (by decide)) (fun _ hk => hk.2) (.slice Ao87 x241000_1.length co87)) (fun _ hk => hk.2) (.slice Ao90 x241001_1.length co90)) (fun _ hk => hk.2) (.int .i64 x241002_5)) (fun _ hk => trivial), by (with_reducible repeat (first | apply Kd.R_alloc | apply Kd.R_drewN | apply Kd.R_drew)); exact Kd.R_mono (Kd.R_far (p := ⟨gb239, 2, none⟩) (Kd.R_far (p := ⟨gb239, 1, none⟩) (Kd.R_far (p := ⟨gb239, 0, none⟩) (Kd.R_types HO_241001.out BK239.out (by decide)) (fun _ hk => hk.2) (.slice Ao87 x241000_1.length co87)) (fun _ hk => hk.2) (.slice Ao90 x241001_1.length co90)) (fun _ hk => hk.2) (.int .i64 x241002_5)) (fun _ hk => trivial), by repeat (first | (with_reducible first | exact HB.out | apply below_alloc | apply pw_below_drewN | apply below_drew1 | refine below_set ?_ GE239.out | refine below_set ?_ GE240.out | refine below_set ?_ GE244.out) | exact HB.out)⟩
   ·rw [if_neg c4] at H
    have c4b0 : decide (x4_1 < (a0.size : Int)) = false := decide_eq_false c4
    clear c4
    simp only [Option.some.injEq, Prod.mk.injEq] at H
    obtain ⟨rfl, rfl, rfl⟩ := H
    have hnb91 := NB240_239.out
    have hnc91 := NB239_240.out
    have hcz92_0 : wr.cell? ⟨gb240, 0, none⟩ = some (u241000) := (blk_cell BK240.out 0).trans rfl
    have hcz92_1 : wr.cell? ⟨gb240, 1, none⟩ = some (u241001) := (blk_cell BK240.out 1).trans rfl
    have hcz92_2 : wr.cell? ⟨gb240, 2, none⟩ = some (.int .i64 x241002_1) := (blk_cell BK240.out 2).trans rfl
    have hfz92_0 := blk_frozen BK240.out 0
    have hfz92_1 := blk_frozen BK240.out 1
    have hfz92_2 := blk_frozen BK240.out 2
    obtain ⟨Ao93, co93, eo93⟩ := Kd.R_slice HO_241000.out
    subst eo93
    have hcz94_0 : wr.cell? ⟨gb239, 0, none⟩ = some (.slice none 0 0) := (blk_cell BK239.out 0).trans rfl
    have hcz94_1 : wr.cell? ⟨gb239, 1, none⟩ = some (.slice none 0 0) := (blk_cell BK239.out 1).trans rfl
    have hcz94_2 : wr.cell? ⟨gb239, 2, none⟩ = some (.int .i64 x240002_1) := (blk_cell BK239.out 2).trans rfl
    have hfz94_0 := blk_frozen BK239.out 0
    have hfz94_1 := blk_frozen BK239.out 1
    have hfz94_2 := blk_frozen BK239.out 2
    obtain ⟨Ao95, co95, eo95⟩ := Kd.R_slice HO_241001.out
    subst eo95
    go_wp2
    refine bodyPost_ret (results_cell_row rfl _ _ gb239 44 #[.slice Ao93 x241000_1.length co93, .slice Ao95 x241001_1.length co95, .int .i64 x241002_1] (0, 0) _ rfl (by (with_reducible repeat (first | refine blk_drewN ?_ _ | refine blk_drew ?_ | refine blk_alloc ?_ _)); refine blk_put (cs := #[.slice Ao93 x241000_1.length co93, .slice Ao95 x241001_1.length co95, .int .i64 x240002_1]) ?_ 2 _ rfl; (with_reducible repeat (first | refine blk_drewN ?_ _ | refine blk_drew ?_ | refine blk_alloc ?_ _)); refine blk_put (cs := #[.slice Ao93 x241000_1.length co93, .slice none 0 0, .int .i64 x240002_1]) ?_ 1 _ rfl; (with_reducible repeat (first | refine blk_drewN ?_ _ | refine blk_drew ?_ | refine blk_alloc ?_ _)); refine blk_put (cs := #[.slice none 0 0, .slice none 0 0, .int .i64 x240002_1]) ?_ 0 _ rfl; (with_reducible repeat (first | refine blk_drewN ?_ _ | refine blk_drew ?_ | refine blk_alloc ?_ _)); exact BK239.out) Try.underlying44 rfl (by kernel_rfl)) rfl ?_
    exact ⟨_, _, by first | rfl | (simp [errW_none, errW_some] <;> rfl) | (simp [*, errW_none, errW_some] <;> rfl), by (with_reducible repeat (first | apply Kd.R_alloc | apply Kd.R_drewN | apply Kd.R_drew)); exact Kd.R_mono (Kd.R_far (p := ⟨gb239, 2, none⟩) (Kd.R_far (p := ⟨gb239, 1, none⟩) (Kd.R_far (p := ⟨gb239, 0, none⟩) (Kd.R_types HO_241000.out BK239.out (by decide)) (fun _ hk => hk.2) (.slice Ao93 x241000_1.length co93)) (fun _ hk => hk.2) (.slice Ao95 x241001_1.length co95)) (fun _ hk => hk.2) (.int .i64 x241002_1)) (fun _ hk => trivial), by (with_reducible repeat (first | apply Kd.R_alloc | apply Kd.R_drewN | apply Kd.R_drew)); exact Kd.R_mono (Kd.R_far (p := ⟨gb239, 2, none⟩) (Kd.R_far (p := ⟨gb239, 1, none⟩) (Kd.R_far (p := ⟨gb239, 0, none⟩) (Kd.R_types HO_241001.out BK239.out (by decide)) (fun _ hk => hk.2) (.slice Ao93 x241000_1.length co93)) (fun _ hk => hk.2) (.slice Ao95 x241001_1.length co95)) (fun _ hk => hk.2) (.int .i64 x241002_1)) (fun _ hk => trivial), by repeat (first | (with_reducible first | exact HB.out | apply below_alloc | apply pw_below_drewN | apply below_drew1 | refine below_set ?_ GE239.out | refine below_set ?_ GE240.out) | exact HB.out)⟩

end Go.Proofs.Ythhigjfkekdmiaa.M
