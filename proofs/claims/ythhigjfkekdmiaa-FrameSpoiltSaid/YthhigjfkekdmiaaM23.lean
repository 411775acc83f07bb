-- Written by a program of this session (wip/tools/mine.sh), out of the translation and hand-given contracts.
import Derived.Test.YthhigjfkekdmiaaM0
import Derived.Test.YthhigjfkekdmiaaM7
import Derived.Test.YthhigjfkekdmiaaM10
import Derived.Test.YthhigjfkekdmiaaM14
namespace Go.Proofs.Ythhigjfkekdmiaa.M
open Go.RowKit Go.Proofs.YthhigjfkekdmiaaW.PrintWords Go.Proofs.YthhigjfkekdmiaaW.PrintLast Go.Proofs.YthhigjfkekdmiaaW.PrintMore
attribute [local go_sem] max2_int min2_int max_two min_two max_three min_three max_four min_four   -- for this text's walks alone
set_option linter.unusedVariables false
set_option linter.unusedSimpArgs false

/-! ### boomeranglaw3_FrameSpoilt: function 11 -/
mutual
def boomeranglaw3_FrameSpoilt.j0 : Nat → ByteArray → ByteArray → Int → Int → Bool → Option (Bool)
 | 0, _, _, _, _, _ => none
 | k + 1, x0, x1, x2, x3, x30 => if x30 = true then ((boomeranglaw3_awake.f k).bind fun t401 => (some t401)) else ((frame_Put.f k x0).bind fun bt402 => ((frame_Put.f k x1).bind fun bt404 => ((boomeranglaw1_Err.f bt402.2).bind fun t406 => ((boomeranglaw1_Err.f bt404.2).bind fun t407 => (if (wrap64 (t406 + t407)) = 0 then (boomeranglaw3_FrameSpoilt.j1 k x0 x2 x3 bt402.1 bt402.2 bt404.1 bt404.2 ((bt402.1.size : Int) != (wrap64 ((x0.size : Int) + 5)))) else (boomeranglaw3_FrameSpoilt.j1 k x0 x2 x3 bt402.1 bt402.2 bt404.1 bt404.2 true))))))
def boomeranglaw3_FrameSpoilt.j1 : Nat → ByteArray → Int → Int → ByteArray → Int → ByteArray → Int → Bool → Option (Bool)
 | 0, _, _, _, _, _, _, _, _ => none
 | k + 1, x0, x2, x3, x9, x10, x11, x12, x55 => if x55 = true then ((boomeranglaw1_Err.f x10).bind fun t408 => ((boomeranglaw1_Err.f x12).bind fun t409 => (if (wrap64 (t408 + t409)) = 0 then (if (x0.size : Int) ≥ 64 then ((boomeranglaw3_awake.f k).bind fun t410 => (some t410)) else (some false)) else (some false)))) else (if x9.size ≤ 9223372036854775807 then ((some (bytesOf x9 : List Int)).bind fun y411 => (if (wrap64 ((wrap64 ((wrap64 (8 * (y411.length : Int))) - 8)) - 31)) = 0 then (none) else (boomeranglaw3_FrameSpoilt.l0 k x3 x11 y411 (wrap64 (8 + (Int.tmod (wrap64 (x2)) (wrap64 ((wrap64 ((wrap64 (8 * (y411.length : Int))) - 8)) - 31))))) 0))) else (none))
def boomeranglaw3_FrameSpoilt.l0 : Nat → Int → ByteArray → List Int → Int → Int → Option (Bool)
 | 0, _, _, _, _, _ => none
 | k + 1, x3, x11, x13, x14, x15 => if x15 < 32 then (if 0 ≤ (wrap64 (Int.tdiv (wrap64 (x14 + x15)) 8)) then (if (wrap64 (Int.tdiv (wrap64 (x14 + x15)) 8)) < (x13.length : Int) then (if 0 ≤ x15 then (if 0 ≤ (Int.tmod (wrap64 (x14 + x15)) 8) then (boomeranglaw3_FrameSpoilt.l0 k x3 x11 (x13.set ((wrap64 (Int.tdiv (wrap64 (x14 + x15)) 8)) : Int).toNat (Go.bits .xor .u8 (rd x13 (wrap64 (Int.tdiv (wrap64 (x14 + x15)) 8))) (shl .u8 ((Go.bits .and .u32 (shr .u32 x3 x15) 1) % 256) (Int.tmod (wrap64 (x14 + x15)) 8)))) x14 (wrap64 (x15 + 1))) else (none)) else (none)) else (none)) else (none)) else (if (strOfNums x13).size + x11.size ≤ 9223372036854775807 then ((frame_All.f k ((strOfNums x13) ++ x11)).bind fun bt416 => (if (bt416.1.length : Int) = 0 then (if bt416.2.1 = 0 then ((boomeranglaw1_Err.f bt416.2.2).bind fun t421 => (if t421 = 5 then ((boomeranglaw3_awake.f k).bind fun t422 => (some t422)) else (some false))) else (some false)) else (some false))) else (none))
end
def boomeranglaw3_FrameSpoilt.f (k : Nat) (a0 : ByteArray) (a1 : ByteArray) (a2 : Int) (a3 : Int) : Option (Bool) := if (a0.size : Int) > 100 then (boomeranglaw3_FrameSpoilt.j0 k a0 a1 a2 a3 true) else (if (a1.size : Int) > 100 then (boomeranglaw3_FrameSpoilt.j0 k a0 a1 a2 a3 true) else (boomeranglaw3_FrameSpoilt.j0 k a0 a1 a2 a3 (a3 == 0)))
theorem boomeranglaw3_FrameSpoilt.mono_l : ∀ k, (∀ y0 y1 y2 y3 y4, LeO (boomeranglaw3_FrameSpoilt.j0 k y0 y1 y2 y3 y4) (boomeranglaw3_FrameSpoilt.j0 (k + 1) y0 y1 y2 y3 y4)) ∧ (∀ y0 y1 y2 y3 y4 y5 y6 y7, LeO (boomeranglaw3_FrameSpoilt.j1 k y0 y1 y2 y3 y4 y5 y6 y7) (boomeranglaw3_FrameSpoilt.j1 (k + 1) y0 y1 y2 y3 y4 y5 y6 y7)) ∧ (∀ y0 y1 y2 y3 y4, LeO (boomeranglaw3_FrameSpoilt.l0 k y0 y1 y2 y3 y4) (boomeranglaw3_FrameSpoilt.l0 (k + 1) y0 y1 y2 y3 y4))
 | 0 => ⟨fun _ _ _ _ _ r h => by simp [boomeranglaw3_FrameSpoilt.j0] at h, fun _ _ _ _ _ _ _ _ r h => by simp [boomeranglaw3_FrameSpoilt.j1] at h, fun _ _ _ _ _ r h => by simp [boomeranglaw3_FrameSpoilt.l0] at h⟩
 | k + 1 => by
  obtain ⟨ih0, ih1, ih2⟩ := boomeranglaw3_FrameSpoilt.mono_l k
  refine ⟨?_, ?_, ?_⟩
  ·intro y0 y1 y2 y3 y4
   unfold boomeranglaw3_FrameSpoilt.j0
   repeat' first
   | (with_reducible exact ih0 _ _ _ _ _)
   | (with_reducible exact ih1 _ _ _ _ _ _ _ _)
   | (with_reducible exact ih2 _ _ _ _ _)
   | (with_reducible exact boomeranglaw3_awake.mono _)
   | (with_reducible exact frame_All.mono _ _)
   | (with_reducible exact frame_Put.mono _ _)
   | (with_reducible exact LeO.refl _)
   | (with_reducible exact LeO.none _)
   | (with_reducible refine LeO.ite ?_ ?_)
   | (with_reducible refine LeO.bind ?_ (fun _ => ?_))
   | exact ih0 _ _ _ _ _
   | exact ih1 _ _ _ _ _ _ _ _
   | exact ih2 _ _ _ _ _
   | exact boomeranglaw3_awake.mono _
   | exact frame_All.mono _ _
   | exact frame_Put.mono _ _
   | exact LeO.none _
   | refine LeO.ite ?_ ?_
   | refine LeO.bind ?_ (fun _ => ?_)
  ·intro y0 y1 y2 y3 y4 y5 y6 y7
   unfold boomeranglaw3_FrameSpoilt.j1
   repeat' first
   | (with_reducible exact ih0 _ _ _ _ _)
   | (with_reducible exact ih1 _ _ _ _ _ _ _ _)
   | (with_reducible exact ih2 _ _ _ _ _)
   | (with_reducible exact boomeranglaw3_awake.mono _)
   | (with_reducible exact frame_All.mono _ _)
   | (with_reducible exact frame_Put.mono _ _)
   | (with_reducible exact LeO.refl _)
   | (with_reducible exact LeO.none _)
   | (with_reducible refine LeO.ite ?_ ?_)
   | (with_reducible refine LeO.bind ?_ (fun _ => ?_))
   | exact ih0 _ _ _ _ _
   | exact ih1 _ _ _ _ _ _ _ _
   | exact ih2 _ _ _ _ _
   | exact boomeranglaw3_awake.mono _
   | exact frame_All.mono _ _
   | exact frame_Put.mono _ _
   | exact LeO.none _
   | refine LeO.ite ?_ ?_
   | refine LeO.bind ?_ (fun _ => ?_)
  ·intro y0 y1 y2 y3 y4
   unfold boomeranglaw3_FrameSpoilt.l0
   repeat' first
   | (with_reducible exact ih0 _ _ _ _ _)
   | (with_reducible exact ih1 _ _ _ _ _ _ _ _)
   | (with_reducible exact ih2 _ _ _ _ _)
   | (with_reducible exact boomeranglaw3_awake.mono _)
   | (with_reducible exact frame_All.mono _ _)
   | (with_reducible exact frame_Put.mono _ _)
   | (with_reducible exact LeO.refl _)
   | (with_reducible exact LeO.none _)
   | (with_reducible refine LeO.ite ?_ ?_)
   | (with_reducible refine LeO.bind ?_ (fun _ => ?_))
   | exact ih0 _ _ _ _ _
   | exact ih1 _ _ _ _ _ _ _ _
   | exact ih2 _ _ _ _ _
   | exact boomeranglaw3_awake.mono _
   | exact frame_All.mono _ _
   | exact frame_Put.mono _ _
   | exact LeO.none _
   | refine LeO.ite ?_ ?_
   | refine LeO.bind ?_ (fun _ => ?_)
theorem boomeranglaw3_FrameSpoilt.mono : ∀ a0 a1 a2 a3 k, LeO (boomeranglaw3_FrameSpoilt.f k a0 a1 a2 a3) (boomeranglaw3_FrameSpoilt.f (k + 1) a0 a1 a2 a3) := by
 intro a0 a1 a2 a3 k
 obtain ⟨ih0, ih1, ih2⟩ := boomeranglaw3_FrameSpoilt.mono_l k
 unfold boomeranglaw3_FrameSpoilt.f
 repeat' first
   | (with_reducible exact ih0 _ _ _ _ _)
   | (with_reducible exact ih1 _ _ _ _ _ _ _ _)
   | (with_reducible exact ih2 _ _ _ _ _)
   | (with_reducible exact boomeranglaw3_awake.mono _)
   | (with_reducible exact frame_All.mono _ _)
   | (with_reducible exact frame_Put.mono _ _)
   | (with_reducible exact LeO.refl _)
   | (with_reducible exact LeO.none _)
   | (with_reducible refine LeO.ite ?_ ?_)
   | (with_reducible refine LeO.bind ?_ (fun _ => ?_))
   | exact ih0 _ _ _ _ _
   | exact ih1 _ _ _ _ _ _ _ _
   | exact ih2 _ _ _ _ _
   | exact boomeranglaw3_awake.mono _
   | exact frame_All.mono _ _
   | exact frame_Put.mono _ _
   | exact LeO.none _
   | refine LeO.ite ?_ ?_
   | refine LeO.bind ?_ (fun _ => ?_)
def boomeranglaw3_FrameSpoilt.T12 : Bool × List (List Nat × List Nat) := (true, [([], []), ([], []), ([], []), ([1, 2], [1, 2]), ([3], [3]), ([0, 4], [0, 4]), ([5], [5]), ([], []), ([], []), ([7, 8], [7, 8]), ([9], [9]), ([10], [10]), ([], []), ([], []), ([12, 13], [12, 13]), ([14], [14]), ([11, 15], [11, 15]), ([6, 16], [6, 16]), ([0, 4, 0, 1, 2, 3, 4, 5, 6, 7, 8, 9, 10, 11, 12, 13, 14, 15, 16, 17], [0, 4]), ([18, 17, 0, 1, 2, 3, 4, 5, 6, 7, 8, 9, 10, 11, 12, 13, 14, 15, 16, 17], [17, 18])])
def boomeranglaw3_FrameSpoilt.B12 : List Nat := [0, 0, 0, 6, 14, 31, 63, 0, 0, 384, 896, 1920, 0, 0, 12288, 28672, 65408, 131071, 262143, 524287]
theorem boomeranglaw3_FrameSpoilt.tab12 : rtab .any (opsOf Try.f11 12) = boomeranglaw3_FrameSpoilt.T12 := by kernel_rfl
theorem boomeranglaw3_FrameSpoilt.bits12 : waitsOk boomeranglaw3_FrameSpoilt.T12.2 boomeranglaw3_FrameSpoilt.B12 = true := by kernel_rfl
set_option maxHeartbeats 8000000 in
set_option maxRecDepth 100000 in
theorem boomeranglaw3_FrameSpoilt.calls (k : Nat) (a0 : ByteArray) (a1 : ByteArray) (a2 : Int) (a3 : Int) (r : Bool) (w : World) (h : boomeranglaw3_FrameSpoilt.f k a0 a1 a2 a3 = some r) (hrt : r = true) :
  Calls Try.prog 11 #[.string a0, .string a1, .int .u16 a2, .int .u32 a3] w fun e w' => e = .returned (.bool r) ∧ Below w.heap.size w w' := by
 have HRT := Aside0.mk hrt
 clear hrt
 have HB := Aside0.mk (Below.refl w.heap.size w)
 have H : (if (a0.size : Int) > 100 then (boomeranglaw3_FrameSpoilt.j0 k a0 a1 a2 a3 true) else (if (a1.size : Int) > 100 then (boomeranglaw3_FrameSpoilt.j0 k a0 a1 a2 a3 true) else (boomeranglaw3_FrameSpoilt.j0 k a0 a1 a2 a3 (a3 == 0)))) = some r := h
 clear h
 have HC5 := Aside0.mk H
 clear H
 go_enter Try.func11, Try.ntmps11
 go_upto_region 1 with (fail)
 go_cut [30] (fun v30 wc => ∃ (kq : Nat) (x30_4 : Bool), v30 = .bool x30_4 ∧ Aside0 (boomeranglaw3_FrameSpoilt.j0 kq a0 a1 a2 a3 x30_4 = some r) ∧ Aside0 (kq ≤ k) ∧ Aside0 (Below w.heap.size w wc))
 case first =>
  have H := HC5.out
  clear HC5
  by_cases c6 : (a0.size : Int) > 100
  ·rw [if_pos c6] at H
   have c6b0 : decide (100 < (a0.size : Int)) = true := decide_eq_true c6
   have c6b1 : decide (100 < a0.size) = true := decide_eq_true (by omega)
   clear c6
   (first | rw [c6b0] | (simp only [i64_w, i32_w]; rw [c6b0]) | skip)
   have H' := Aside0.mk H
   clear H
   go_wp2
   go_meet
   case rel => exact ⟨_, (true), (by first | rfl | (simp; done) | (simp [*]; done)), H', ⟨by first | omega | exact Nat.le_refl _⟩, ⟨by repeat (first | (with_reducible first | exact HB.out | apply below_alloc | apply pw_below_drewN | apply below_drew1) | exact HB.out)⟩⟩
  ·rw [if_neg c6] at H
   have c6b0 : decide (100 < (a0.size : Int)) = false := decide_eq_false c6
   have c6b1 : decide (100 < a0.size) = false := decide_eq_false (by omega)
   clear c6
   (first | rw [c6b0] | (simp only [i64_w, i32_w]; rw [c6b0]) | skip)
   by_cases c7 : (a1.size : Int) > 100
   ·rw [if_pos c7] at H
    have c7b0 : decide (100 < (a1.size : Int)) = true := decide_eq_true c7
    have c7b1 : decide (100 < a1.size) = true := decide_eq_true (by omega)
    clear c7
    have H' := Aside0.mk H
    clear H
    go_wp2
    go_meet
    case rel => exact ⟨_, (true), (by first | rfl | (simp; done) | (simp [*]; done)), H', ⟨by first | omega | exact Nat.le_refl _⟩, ⟨by repeat (first | (with_reducible first | exact HB.out | apply below_alloc | apply pw_below_drewN | apply below_drew1) | exact HB.out)⟩⟩
   ·rw [if_neg c7] at H
    have c7b0 : decide (100 < (a1.size : Int)) = false := decide_eq_false c7
    have c7b1 : decide (100 < a1.size) = false := decide_eq_false (by omega)
    clear c7
    have H' := Aside0.mk H
    clear H
    go_wp2
    go_meet
    case rel => exact ⟨_, ((a3 == 0)), (by first | rfl | (simp; done) | (simp [*]; done)), H', ⟨by first | omega | exact Nat.le_refl _⟩, ⟨by repeat (first | (with_reducible first | exact HB.out | apply below_alloc | apply pw_below_drewN | apply below_drew1) | exact HB.out)⟩⟩
 case rest =>
  clear HC5
  try clear c1
  try clear p2
  try clear c6
  try clear c6b0
  try clear c6b1
  try clear c7
  try clear c7b0
  try clear c7b1
  obtain ⟨kq, x30_4, rfl, HA, HJ4, HB⟩ := hcut
  cases kq with
  | zero => exact absurd HA.out (by simp [boomeranglaw3_FrameSpoilt.j0])
  | succ kj4 =>
   have H := HA.out
   clear HA
   simp only [boomeranglaw3_FrameSpoilt.j0] at H
   by_cases c8 : x30_4 = true
   ·subst c8
    have H1 : ((boomeranglaw3_awake.f kj4).bind fun t401 => (some t401)) = some r := by rw [if_pos rfl] at H; exact H
    clear H
    have H := H1
    clear H1
    replace H := Option.bind_eq_some_iff.mp H
    obtain ⟨t401, A90, H⟩ := H
    replace H : (some t401) = some r := H
    have A9 := Aside0.mk A90
    clear A90
    obtain rfl := Option.some.inj H
    go_wp2_with (first | ((with_reducible refine gate_callee (f := 20) rfl ?_); refine goesL_ (some 31) rfl rfl Try.func20 (by kernel_rfl) rfl #[] rfl (by (try simp only [List.map_toArray, List.map_cons, List.map_nil]); first | done | rfl | (simp only [List.length_drop, List.length_take]; rfl)) ?_; (with_reducible refine (boomeranglaw3_awake.calls kj4  t401 _ A9.out).mono ?_); rintro e w10 ⟨rfl, hb⟩; refine ⟨_, rfl, ?_⟩; have n0_ := Aside0.mk (below_step (by repeat (first | (with_reducible first | exact HB.out | apply below_alloc | apply pw_below_drewN | apply below_drew1) | exact HB.out)) hb); clear HB; have HB := n0_; clear n0_; (try clear hb); (try clear hb2); (try clear hk); (try clear hi)))
    go_ret
    exact ⟨by first | rfl | (simp [errW_none, errW_some] <;> rfl) | (simp [*, errW_none, errW_some] <;> rfl), by repeat (first | (with_reducible first | exact HB.out | apply below_alloc | apply pw_below_drewN | apply below_drew1) | exact HB.out)⟩
   ·replace c8 := Bool.eq_false_iff.mpr c8
    subst c8
    have H1 : ((frame_Put.f kj4 a0).bind fun bt402 => ((frame_Put.f kj4 a1).bind fun bt404 => ((boomeranglaw1_Err.f bt402.2).bind fun t406 => ((boomeranglaw1_Err.f bt404.2).bind fun t407 => (if (wrap64 (t406 + t407)) = 0 then (boomeranglaw3_FrameSpoilt.j1 kj4 a0 a2 a3 bt402.1 bt402.2 bt404.1 bt404.2 ((bt402.1.size : Int) != (wrap64 ((a0.size : Int) + 5)))) else (boomeranglaw3_FrameSpoilt.j1 kj4 a0 a2 a3 bt402.1 bt402.2 bt404.1 bt404.2 true)))))) = some r := by rw [if_neg (show ¬ (false = true) by decide)] at H; exact H
    clear H
    have H := H1
    clear H1
    replace H := Option.bind_eq_some_iff.mp H
    obtain ⟨⟨t402, t403⟩, A110, H⟩ := H
    replace H : ((frame_Put.f kj4 a1).bind fun bt404 => ((boomeranglaw1_Err.f t403).bind fun t406 => ((boomeranglaw1_Err.f bt404.2).bind fun t407 => (if (wrap64 (t406 + t407)) = 0 then (boomeranglaw3_FrameSpoilt.j1 kj4 a0 a2 a3 t402 t403 bt404.1 bt404.2 ((t402.size : Int) != (wrap64 ((a0.size : Int) + 5)))) else (boomeranglaw3_FrameSpoilt.j1 kj4 a0 a2 a3 t402 t403 bt404.1 bt404.2 true))))) = some r := H
    have A11 := Aside0.mk A110
    clear A110
    replace H := Option.bind_eq_some_iff.mp H
    obtain ⟨⟨t404, t405⟩, A120, H⟩ := H
    replace H : ((boomeranglaw1_Err.f t403).bind fun t406 => ((boomeranglaw1_Err.f t405).bind fun t407 => (if (wrap64 (t406 + t407)) = 0 then (boomeranglaw3_FrameSpoilt.j1 kj4 a0 a2 a3 t402 t403 t404 t405 ((t402.size : Int) != (wrap64 ((a0.size : Int) + 5)))) else (boomeranglaw3_FrameSpoilt.j1 kj4 a0 a2 a3 t402 t403 t404 t405 true)))) = some r := H
    have A12 := Aside0.mk A120
    clear A120
    have HC13 := Aside0.mk H
    clear H
    go_upto_region 5 with (first | ((with_reducible refine gate_callee (f := 21) rfl ?_); refine goesL_ (some 34) rfl rfl Try.func21 (by kernel_rfl) rfl #[.string a0] rfl (by (try simp only [List.map_toArray, List.map_cons, List.map_nil]); first | done | rfl | (simp only [List.length_drop, List.length_take]; rfl)) ?_; (with_reducible refine (frame_Put.calls kj4 a0 t402 t403 _ A11.out).mono ?_); rintro e w14 ⟨rfl, hb⟩; refine ⟨_, rfl, ?_⟩; have n0_ := Aside0.mk (below_step (by repeat (first | (with_reducible first | exact HB.out | apply below_alloc | apply pw_below_drewN | apply below_drew1) | exact HB.out)) hb); clear HB; have HB := n0_; clear n0_; (try clear hb); (try clear hb2); (try clear hk); (try clear hi)) | ((with_reducible refine gate_callee (f := 21) rfl ?_); refine goesL_ (some 39) rfl rfl Try.func21 (by kernel_rfl) rfl #[.string a1] rfl (by (try simp only [List.map_toArray, List.map_cons, List.map_nil]); first | done | rfl | (simp only [List.length_drop, List.length_take]; rfl)) ?_; (with_reducible refine (frame_Put.calls kj4 a1 t404 t405 _ A12.out).mono ?_); rintro e w15 ⟨rfl, hb⟩; refine ⟨_, rfl, ?_⟩; have n0_ := Aside0.mk (below_step (by repeat (first | (with_reducible first | exact HB.out | apply below_alloc | apply pw_below_drewN | apply below_drew1) | exact HB.out)) hb); clear HB; have HB := n0_; clear n0_; (try clear hb); (try clear hb2); (try clear hk); (try clear hi)))
    (try simp only [Act.put, List.setIfInBounds_toArray, List.set_cons_zero, List.set_cons_succ])
    go_cut [55] (fun v55 wc => ∃ (kq : Nat) (x55_12 : Bool), v55 = .bool x55_12 ∧ Aside0 (boomeranglaw3_FrameSpoilt.j1 kq a0 a2 a3 t402 t403 t404 t405 x55_12 = some r) ∧ Aside0 (kq ≤ kj4) ∧ Aside0 (Below w.heap.size w wc))
    case first =>
     have H := HC13.out
     clear HC13
     replace H := Option.bind_eq_some_iff.mp H
     obtain ⟨t406, A160, H⟩ := H
     replace H : ((boomeranglaw1_Err.f t405).bind fun t407 => (if (wrap64 (t406 + t407)) = 0 then (boomeranglaw3_FrameSpoilt.j1 kj4 a0 a2 a3 t402 t403 t404 t405 ((t402.size : Int) != (wrap64 ((a0.size : Int) + 5)))) else (boomeranglaw3_FrameSpoilt.j1 kj4 a0 a2 a3 t402 t403 t404 t405 true))) = some r := H
     have A16 := Aside0.mk A160
     clear A160
     replace H := Option.bind_eq_some_iff.mp H
     obtain ⟨t407, A170, H⟩ := H
     replace H : (if (wrap64 (t406 + t407)) = 0 then (boomeranglaw3_FrameSpoilt.j1 kj4 a0 a2 a3 t402 t403 t404 t405 ((t402.size : Int) != (wrap64 ((a0.size : Int) + 5)))) else (boomeranglaw3_FrameSpoilt.j1 kj4 a0 a2 a3 t402 t403 t404 t405 true)) = some r := H
     have A17 := Aside0.mk A170
     clear A170
     by_cases c18 : (wrap64 (t406 + t407)) = 0
     ·rw [if_pos c18] at H
      have c18b0 : ((wrap64 (t406 + t407)) == 0) = true := beq_iff_eq.mpr c18
      have c18b1 : ((wrap64 (t406 + t407)) != 0) = false := bne_eq_false_iff_eq.mpr c18
      clear c18
      (first | rw [c18b0] | (simp only [i64_w, i32_w]; rw [c18b0]) | skip)
      have H' := Aside0.mk H
      clear H
      go_wp2_with (first | ((with_reducible refine gate_callee (f := 19) rfl ?_); refine goesL_ (some 43) rfl rfl Try.func19 (by kernel_rfl) rfl #[.int .i64 t403] rfl (by (try simp only [List.map_toArray, List.map_cons, List.map_nil]); first | done | rfl | (simp only [List.length_drop, List.length_take]; rfl)) ?_; (with_reducible refine (boomeranglaw1_Err.calls t403 t406 _ A16.out).mono ?_); rintro e w' ⟨rfl, ⟨nd, rfl⟩⟩; refine ⟨_, rfl, ?_⟩) | ((with_reducible refine gate_callee (f := 19) rfl ?_); refine goesL_ (some 45) rfl rfl Try.func19 (by kernel_rfl) rfl #[.int .i64 t405] rfl (by (try simp only [List.map_toArray, List.map_cons, List.map_nil]); first | done | rfl | (simp only [List.length_drop, List.length_take]; rfl)) ?_; (with_reducible refine (boomeranglaw1_Err.calls t405 t407 _ A17.out).mono ?_); rintro e w' ⟨rfl, ⟨nd, rfl⟩⟩; refine ⟨_, rfl, ?_⟩))
      go_meet
      case rel => exact ⟨_, (((t402.size : Int) != (wrap64 ((a0.size : Int) + 5)))), (by first | rfl | (simp; done) | (simp [*]; done)), H', ⟨by have := HJ4.out; first | omega | exact Nat.le_refl _⟩, ⟨by repeat (first | (with_reducible first | exact HB.out | apply below_alloc | apply pw_below_drewN | apply below_drew1) | exact HB.out)⟩⟩
     ·rw [if_neg c18] at H
      have c18b0 : ((wrap64 (t406 + t407)) == 0) = false := beq_eq_false_iff_ne.mpr c18
      have c18b1 : ((wrap64 (t406 + t407)) != 0) = true := bne_iff_ne.mpr c18
      (first | rw [c18b0] | (simp only [i64_w, i32_w]; rw [c18b0]) | skip)
      have H' := Aside0.mk H
      clear H
      go_wp2_with (first | ((with_reducible refine gate_callee (f := 19) rfl ?_); refine goesL_ (some 43) rfl rfl Try.func19 (by kernel_rfl) rfl #[.int .i64 t403] rfl (by (try simp only [List.map_toArray, List.map_cons, List.map_nil]); first | done | rfl | (simp only [List.length_drop, List.length_take]; rfl)) ?_; (with_reducible refine (boomeranglaw1_Err.calls t403 t406 _ A16.out).mono ?_); rintro e w' ⟨rfl, ⟨nd, rfl⟩⟩; refine ⟨_, rfl, ?_⟩) | ((with_reducible refine gate_callee (f := 19) rfl ?_); refine goesL_ (some 45) rfl rfl Try.func19 (by kernel_rfl) rfl #[.int .i64 t405] rfl (by (try simp only [List.map_toArray, List.map_cons, List.map_nil]); first | done | rfl | (simp only [List.length_drop, List.length_take]; rfl)) ?_; (with_reducible refine (boomeranglaw1_Err.calls t405 t407 _ A17.out).mono ?_); rintro e w' ⟨rfl, ⟨nd, rfl⟩⟩; refine ⟨_, rfl, ?_⟩))
      go_meet
      case rel => exact ⟨_, (true), (by first | rfl | (simp; done) | (simp [*]; done)), H', ⟨by have := HJ4.out; first | omega | exact Nat.le_refl _⟩, ⟨by repeat (first | (with_reducible first | exact HB.out | apply below_alloc | apply pw_below_drewN | apply below_drew1) | exact HB.out)⟩⟩
    case rest =>
     clear HC13
     try clear c1
     try clear c2
     try clear p2
     try clear c6
     try clear c6b0
     try clear c6b1
     try clear p6
     try clear c7
     try clear c7b0
     try clear c7b1
     try clear c8
     try clear c11
     try clear c18
     try clear c18b0
     try clear c18b1
     try clear p2
     obtain ⟨kq, x55_12, rfl, HA, HJ12, HB⟩ := hcut
     cases kq with
     | zero => exact absurd HA.out (by simp [boomeranglaw3_FrameSpoilt.j1])
     | succ kj12 =>
      have H := HA.out
      clear HA
      simp only [boomeranglaw3_FrameSpoilt.j1] at H
      by_cases c19 : x55_12 = true
      ·subst c19
       have H1 : ((boomeranglaw1_Err.f t403).bind fun t408 => ((boomeranglaw1_Err.f t405).bind fun t409 => (if (wrap64 (t408 + t409)) = 0 then (if (a0.size : Int) ≥ 64 then ((boomeranglaw3_awake.f kj12).bind fun t410 => (some t410)) else (some false)) else (some false)))) = some r := by rw [if_pos rfl] at H; exact H
       clear H
       have H := H1
       clear H1
       replace H := Option.bind_eq_some_iff.mp H
       obtain ⟨t408, A200, H⟩ := H
       replace H : ((boomeranglaw1_Err.f t405).bind fun t409 => (if (wrap64 (t408 + t409)) = 0 then (if (a0.size : Int) ≥ 64 then ((boomeranglaw3_awake.f kj12).bind fun t410 => (some t410)) else (some false)) else (some false))) = some r := H
       have A20 := Aside0.mk A200
       clear A200
       replace H := Option.bind_eq_some_iff.mp H
       obtain ⟨t409, A210, H⟩ := H
       replace H : (if (wrap64 (t408 + t409)) = 0 then (if (a0.size : Int) ≥ 64 then ((boomeranglaw3_awake.f kj12).bind fun t410 => (some t410)) else (some false)) else (some false)) = some r := H
       have A21 := Aside0.mk A210
       clear A210
       by_cases c22 : (wrap64 (t408 + t409)) = 0
       ·rw [if_pos c22] at H
        have c22b0 : ((wrap64 (t408 + t409)) == 0) = true := beq_iff_eq.mpr c22
        have c22b1 : ((wrap64 (t408 + t409)) != 0) = false := bne_eq_false_iff_eq.mpr c22
        clear c22
        by_cases c23 : (a0.size : Int) ≥ 64
        ·rw [if_pos c23] at H
         have c23b0 : decide (64 ≤ (a0.size : Int)) = true := decide_eq_true c23
         have c23b1 : decide (64 ≤ a0.size) = true := decide_eq_true (by omega)
         clear c23
         replace H := Option.bind_eq_some_iff.mp H
         obtain ⟨t410, A240, H⟩ := H
         replace H : (some t410) = some r := H
         have A24 := Aside0.mk A240
         clear A240
         obtain rfl := Option.some.inj H
         go_wp2_with (first | ((with_reducible refine gate_callee (f := 19) rfl ?_); refine goesL_ (some 57) rfl rfl Try.func19 (by kernel_rfl) rfl #[.int .i64 t403] rfl (by (try simp only [List.map_toArray, List.map_cons, List.map_nil]); first | done | rfl | (simp only [List.length_drop, List.length_take]; rfl)) ?_; (with_reducible refine (boomeranglaw1_Err.calls t403 t408 _ A20.out).mono ?_); rintro e w' ⟨rfl, ⟨nd, rfl⟩⟩; refine ⟨_, rfl, ?_⟩) | ((with_reducible refine gate_callee (f := 19) rfl ?_); refine goesL_ (some 59) rfl rfl Try.func19 (by kernel_rfl) rfl #[.int .i64 t405] rfl (by (try simp only [List.map_toArray, List.map_cons, List.map_nil]); first | done | rfl | (simp only [List.length_drop, List.length_take]; rfl)) ?_; (with_reducible refine (boomeranglaw1_Err.calls t405 t409 _ A21.out).mono ?_); rintro e w' ⟨rfl, ⟨nd, rfl⟩⟩; refine ⟨_, rfl, ?_⟩) | (go_at_call 20; (with_reducible refine (boomeranglaw3_awake.calls kj12  t410 _ A24.out).mono ?_); rintro e w25 ⟨rfl, hb⟩; have n0_ := Aside0.mk (below_step (by repeat (first | (with_reducible first | exact HB.out | apply below_alloc | apply pw_below_drewN | apply below_drew1) | exact HB.out)) hb); clear HB; have HB := n0_; clear n0_; (try clear hb); (try clear hb2); (try clear hk); (try clear hi)))
         go_ret
         exact ⟨by first | rfl | (simp [errW_none, errW_some] <;> rfl) | (simp [*, errW_none, errW_some] <;> rfl), by repeat (first | (with_reducible first | exact HB.out | apply below_alloc | apply pw_below_drewN | apply below_drew1) | exact HB.out)⟩
        ·rw [if_neg c23] at H
         have c23b0 : decide (64 ≤ (a0.size : Int)) = false := decide_eq_false c23
         have c23b1 : decide (64 ≤ a0.size) = false := decide_eq_false (by omega)
         clear c23
         obtain rfl := Option.some.inj H
         go_wp2_with (first | ((with_reducible refine gate_callee (f := 19) rfl ?_); refine goesL_ (some 57) rfl rfl Try.func19 (by kernel_rfl) rfl #[.int .i64 t403] rfl (by (try simp only [List.map_toArray, List.map_cons, List.map_nil]); first | done | rfl | (simp only [List.length_drop, List.length_take]; rfl)) ?_; (with_reducible refine (boomeranglaw1_Err.calls t403 t408 _ A20.out).mono ?_); rintro e w' ⟨rfl, ⟨nd, rfl⟩⟩; refine ⟨_, rfl, ?_⟩) | ((with_reducible refine gate_callee (f := 19) rfl ?_); refine goesL_ (some 59) rfl rfl Try.func19 (by kernel_rfl) rfl #[.int .i64 t405] rfl (by (try simp only [List.map_toArray, List.map_cons, List.map_nil]); first | done | rfl | (simp only [List.length_drop, List.length_take]; rfl)) ?_; (with_reducible refine (boomeranglaw1_Err.calls t405 t409 _ A21.out).mono ?_); rintro e w' ⟨rfl, ⟨nd, rfl⟩⟩; refine ⟨_, rfl, ?_⟩))
         go_ret
         exact ⟨by first | rfl | (simp [errW_none, errW_some] <;> rfl) | (simp [*, errW_none, errW_some] <;> rfl), by repeat (first | (with_reducible first | exact HB.out | apply below_alloc | apply pw_below_drewN | apply below_drew1) | exact HB.out)⟩
       ·rw [if_neg c22] at H
        exact absurd (H.trans (congrArg some HRT.out)) (by simp)
      ·replace c19 := Bool.eq_false_iff.mpr c19
       subst c19
       have H1 : (if t402.size ≤ 9223372036854775807 then ((some (bytesOf t402 : List Int)).bind fun y411 => (if (wrap64 ((wrap64 ((wrap64 (8 * (y411.length : Int))) - 8)) - 31)) = 0 then (none) else (boomeranglaw3_FrameSpoilt.l0 kj12 a3 t404 y411 (wrap64 (8 + (Int.tmod (wrap64 (a2)) (wrap64 ((wrap64 ((wrap64 (8 * (y411.length : Int))) - 8)) - 31))))) 0))) else (none)) = some r := by rw [if_neg (show ¬ (false = true) by decide)] at H; exact H
       clear H
       have H := H1
       clear H1
       by_cases c26 : t402.size ≤ 9223372036854775807
       ·rw [if_pos c26] at H
        have c26b0 := eq_true c26
        have c26b1 : decide (t402.size ≤ 9223372036854775807) = true := decide_eq_true c26
        try have c26b2 : (9223372036854775807 < t402.size) = False := eq_false (Nat.not_lt.2 c26)
        clear c26
        obtain ⟨y411, hy411⟩ : ∃ y_ : List Int, y_ = (bytesOf t402) := ⟨_, rfl⟩
        replace H : (if (wrap64 ((wrap64 ((wrap64 (8 * (y411.length : Int))) - 8)) - 31)) = 0 then (none) else (boomeranglaw3_FrameSpoilt.l0 kj12 a3 t404 y411 (wrap64 (8 + (Int.tmod (wrap64 (a2)) (wrap64 ((wrap64 ((wrap64 (8 * (y411.length : Int))) - 8)) - 31))))) 0)) = some r := by first | (rw [hy411]; with_reducible exact H) | (have H2_ := (Option.bind_some _ _).symm.trans H; rw [hy411]; with_reducible exact H2_) | (have H2_ := (Option.bind_some _ _).symm.trans H; with_reducible exact H2_) | with_reducible exact H | (rw [hy411]; exact H) | exact H
        have Ny411 := Aside0.mk hy411
        clear hy411
        by_cases c27 : (wrap64 ((wrap64 ((wrap64 (8 * (y411.length : Int))) - 8)) - 31)) = 0
        ·rw [if_pos c27] at H
         exact absurd H (by simp)
        ·rw [if_neg c27] at H
         have c27b0 : ((wrap64 ((wrap64 ((wrap64 (8 * (y411.length : Int))) - 8)) - 31)) == 0) = false := beq_eq_false_iff_ne.mpr c27
         have c27b1 : ((wrap64 ((wrap64 ((wrap64 (8 * (y411.length : Int))) - 8)) - 31)) != 0) = true := bne_iff_ne.mpr c27
         have H' := Aside0.mk H
         clear H
         go_wp2_with (first | ((with_reducible refine gate_dst (N := 71) rfl ?_); (try (refine gate_guard (by rfl) ?_; dsimp only)); refine Kd.B_conv _ 5 rfl (N := 71) rfl 9 22 _ rfl t402 rfl Try.underlying9 Try.underlying22 Try.underlying5 (ok := fun _ => True) trivial (of_decide_eq_true (by first | (with_reducible assumption) | assumption)) (Below.refl _ _) (Nat.le_refl _) ?_; intro v412 w28 ho29 hb hg_ hnew_; clear hg_ hnew_; (first | rw [← Ny411.out] at ho29 | (simp only [Int.reduceToNat] at ho29; rw [← Ny411.out] at ho29)); have n0_ := Aside0.mk (Kd.B_lower ho29 (below_size (by repeat (first | (with_reducible first | exact HB.out | apply below_alloc | apply pw_below_drewN | apply below_drew1) | exact HB.out)))); have n1_ := Aside0.mk (below_step (by repeat (first | (with_reducible first | exact HB.out | apply below_alloc | apply pw_below_drewN | apply below_drew1) | exact HB.out)) hb); clear HB; have HO413 := n0_; have HB := n1_; clear n0_ n1_; clear hb ho29; obtain ⟨Ao30, co30, eo30⟩ := Kd.B_slice HO413.out; subst eo30))
         go_loopg [15] kj12 (fun kq v15 w' => ∃ (x13_3 : List Int) (x15_3 : Int), v15 = .int .i64 x15_3 ∧ Aside0 (boomeranglaw3_FrameSpoilt.l0 kq a3 t404 x13_3 (wrap64 (8 + (Int.tmod (wrap64 (a2)) (wrap64 ((wrap64 ((wrap64 (8 * (y411.length : Int))) - 8)) - 31))))) x15_3 = some r) ∧ Aside0 (kq ≤ kj12) ∧ Aside0 (Kd.B (Kd.int .u8) 5 w' w.heap.size (fun _ => True) (.slice Ao30 y411.length co30) x13_3) ∧ Aside0 (Below w.heap.size w w'))
         case atStart => exact ⟨(y411), (0), (by first | rfl | (simp; done) | (simp [*]; done)), H', ⟨Nat.le_refl _⟩, ⟨by (with_reducible repeat (first | apply Kd.B_alloc | apply Kd.B_drewN | apply Kd.B_drew)); exact HO413.out⟩, ⟨by repeat (first | (with_reducible first | exact HB.out | apply below_alloc | apply pw_below_drewN | apply below_drew1) | exact HB.out)⟩⟩
         case round =>
          clear H'
          try clear c1
          try clear c2
          try clear p2
          try clear c6
          try clear c6b0
          try clear c6b1
          try clear p6
          try clear c7
          try clear c7b0
          try clear c7b1
          try clear c8
          try clear c11
          try clear c18
          try clear c18b0
          try clear c18b1
          try clear c19
          try clear c20
          try clear c21
          try clear c22
          try clear c22b0
          try clear c22b1
          try clear c23
          try clear c23b0
          try clear c23b1
          try clear c26
          try clear c26b0
          try clear c26b1
          try clear c26b2
          try clear c27
          try clear c27b0
          try clear c27b1
          try clear p2
          try clear p6
          obtain ⟨x13_3, x15_3, rfl, HA, HK3, HO_13, HB⟩ := hrel
          have hl13_3 := (Kd.B_reads' HO_13.out).1
          rw [hl13_3] at HO_13
          (try simp only [hl13_3])
          cases gk with
          | zero => exact absurd HA.out (by simp [boomeranglaw3_FrameSpoilt.l0])
          | succ k3 =>
           have H := HA.out
           clear HA
           simp only [boomeranglaw3_FrameSpoilt.l0] at H
           by_cases c31 : x15_3 < 32
           ·rw [if_pos c31] at H
            have c31b0 : decide (x15_3 < 32) = true := decide_eq_true c31
            clear c31
            obtain ⟨ji32, hji32⟩ : ∃ j_ : Int, (wrap64 (Int.tdiv (wrap64 ((wrap64 (8 + (Int.tmod (wrap64 (a2)) (wrap64 ((wrap64 ((wrap64 (8 * (y411.length : Int))) - 8)) - 31))))) + x15_3)) 8)) = j_ := ⟨_, rfl⟩
            (try (have hji32x := hji32; rw [hl13_3] at hji32x))
            replace H : (if 0 ≤ (ji32) then (if (ji32) < (x13_3.length : Int) then (if 0 ≤ x15_3 then (if 0 ≤ (Int.tmod (wrap64 ((wrap64 (8 + (Int.tmod (wrap64 (a2)) (wrap64 ((wrap64 ((wrap64 (8 * (y411.length : Int))) - 8)) - 31))))) + x15_3)) 8) then (boomeranglaw3_FrameSpoilt.l0 k3 a3 t404 (x13_3.set ((ji32) : Int).toNat (Go.bits .xor .u8 (rd x13_3 (ji32)) (shl .u8 ((Go.bits .and .u32 (shr .u32 a3 x15_3) 1) % 256) (Int.tmod (wrap64 ((wrap64 (8 + (Int.tmod (wrap64 (a2)) (wrap64 ((wrap64 ((wrap64 (8 * (y411.length : Int))) - 8)) - 31))))) + x15_3)) 8)))) (wrap64 (8 + (Int.tmod (wrap64 (a2)) (wrap64 ((wrap64 ((wrap64 (8 * (y411.length : Int))) - 8)) - 31))))) (wrap64 (x15_3 + 1))) else (none)) else (none)) else (none)) else (none)) = some r := by first | (rw [hji32] at H; exact H) | (simp only [hji32] at H ⊢; exact H)
            have hji32w : (IntKind.i64.wrap (Int.tdiv (wrap64 ((wrap64 (8 + (Int.tmod (wrap64 (a2)) (wrap64 ((wrap64 ((wrap64 (8 * (y411.length : Int))) - 8)) - 31))))) + x15_3)) 8)) = ji32 := (i64_w _).trans hji32
            (try (have hji32wx := hji32w; rw [hl13_3] at hji32wx))
            by_cases c33 : 0 ≤ (ji32)
            ·rw [if_pos c33] at H
             have c33b0 : decide (0 ≤ (ji32)) = true := decide_eq_true c33
             clear c33
             by_cases c34 : (ji32) < (x13_3.length : Int)
             ·rw [if_pos c34] at H
              have c34b0 : decide ((ji32) < (x13_3.length : Int)) = true := decide_eq_true c34
              clear c34
              by_cases c35 : 0 ≤ x15_3
              ·rw [if_pos c35] at H
               have c35b0 := eq_true c35
               have c35b1 : decide (0 ≤ x15_3) = true := decide_eq_true c35
               clear c35
               obtain ⟨ji36, hji36⟩ : ∃ j_ : Int, (shr .u32 a3 x15_3) = j_ := ⟨_, rfl⟩
               replace H : (if 0 ≤ (Int.tmod (wrap64 ((wrap64 (8 + (Int.tmod (wrap64 (a2)) (wrap64 ((wrap64 ((wrap64 (8 * (y411.length : Int))) - 8)) - 31))))) + x15_3)) 8) then (boomeranglaw3_FrameSpoilt.l0 k3 a3 t404 (x13_3.set ((ji32) : Int).toNat (Go.bits .xor .u8 (rd x13_3 (ji32)) (shl .u8 ((Go.bits .and .u32 (ji36) 1) % 256) (Int.tmod (wrap64 ((wrap64 (8 + (Int.tmod (wrap64 (a2)) (wrap64 ((wrap64 ((wrap64 (8 * (y411.length : Int))) - 8)) - 31))))) + x15_3)) 8)))) (wrap64 (8 + (Int.tmod (wrap64 (a2)) (wrap64 ((wrap64 ((wrap64 (8 * (y411.length : Int))) - 8)) - 31))))) (wrap64 (x15_3 + 1))) else (none)) = some r := by first | (rw [hji36] at H; exact H) | (simp only [hji36] at H ⊢; exact H)
               have hji36_ : (a3 / 2 ^ min x15_3.toNat 32) = ji36 := hji36
               have hji36z : x15_3 ≤ 32 → (a3 / 2 ^ x15_3.toNat) = ji36 := shr_small hji36
               obtain ⟨ji37, hji37⟩ : ∃ j_ : Int, (Int.tmod (wrap64 ((wrap64 (8 + (Int.tmod (wrap64 (a2)) (wrap64 ((wrap64 ((wrap64 (8 * (y411.length : Int))) - 8)) - 31))))) + x15_3)) 8) = j_ := ⟨_, rfl⟩
               (try (have hji37x := hji37; rw [hl13_3] at hji37x))
               replace H : (if 0 ≤ (ji37) then (boomeranglaw3_FrameSpoilt.l0 k3 a3 t404 (x13_3.set ((ji32) : Int).toNat (Go.bits .xor .u8 (rd x13_3 (ji32)) (shl .u8 ((Go.bits .and .u32 (ji36) 1) % 256) (ji37)))) (wrap64 (8 + (Int.tmod (wrap64 (a2)) (wrap64 ((wrap64 ((wrap64 (8 * (y411.length : Int))) - 8)) - 31))))) (wrap64 (x15_3 + 1))) else (none)) = some r := by first | (rw [hji37] at H; exact H) | (simp only [hji37] at H ⊢; exact H)
               by_cases c38 : 0 ≤ (ji37)
               ·rw [if_pos c38] at H
                have c38b0 := eq_true c38
                have c38b1 : decide (0 ≤ (ji37)) = true := decide_eq_true c38
                clear c38
                obtain ⟨ji39, hji39⟩ : ∃ j_ : Int, (shl .u8 ((Go.bits .and .u32 (ji36) 1) % 256) (ji37)) = j_ := ⟨_, rfl⟩
                replace H : (boomeranglaw3_FrameSpoilt.l0 k3 a3 t404 (x13_3.set ((ji32) : Int).toNat (Go.bits .xor .u8 (rd x13_3 (ji32)) (ji39))) (wrap64 (8 + (Int.tmod (wrap64 (a2)) (wrap64 ((wrap64 ((wrap64 (8 * (y411.length : Int))) - 8)) - 31))))) (wrap64 (x15_3 + 1))) = some r := by first | (rw [hji39] at H; exact H) | (simp only [hji39] at H ⊢; exact H)
                have hji39_ : (IntKind.u8.wrap (((Go.bits .and .u32 (ji36) 1) % 256) * 2 ^ min (ji37).toNat 8)) = ji39 := hji39
                have hji39z : (ji37) ≤ 8 → (IntKind.u8.wrap (((Go.bits .and .u32 (ji36) 1) % 256) * 2 ^ (ji37).toNat)) = ji39 := shl_small hji39
                obtain ⟨y415, hy415⟩ : ∃ y_ : List Int, y_ = (x13_3.set ((ji32) : Int).toNat (Go.bits .xor .u8 (rd x13_3 (ji32)) (ji39))) := ⟨_, rfl⟩
                replace H : (boomeranglaw3_FrameSpoilt.l0 k3 a3 t404 y415 (wrap64 (8 + (Int.tmod (wrap64 (a2)) (wrap64 ((wrap64 ((wrap64 (8 * (y411.length : Int))) - 8)) - 31))))) (wrap64 (x15_3 + 1))) = some r := by first | (rw [hy415]; with_reducible exact H) | (have H2_ := (Option.bind_some _ _).symm.trans H; rw [hy415]; with_reducible exact H2_) | (have H2_ := (Option.bind_some _ _).symm.trans H; with_reducible exact H2_) | with_reducible exact H | (rw [hy415]; exact H) | exact H
                have Ny415 := Aside0.mk hy415
                clear hy415
                have H' := Aside0.mk H
                clear H
                try go_wp2
                have n0_ := Aside0.mk (Kd.B_drew HO_13.out)
                have n1_ := Aside0.mk (below_drew1 HB.out)
                clear HO_13
                clear HB
                have HO_13 := n0_
                have HB := n1_
                clear n0_ n1_
                have p414 : 0 ≤ ((ji32) : Int) := of_decide_eq_true (by first | (with_reducible assumption) | assumption)
                have q414 : (ji32) < (x13_3.length : Int) := of_decide_eq_true (by first | (with_reducible assumption) | assumption)
                obtain ⟨ad414, e414, hx414_0⟩ := Kd.at_int (Kd.B_reads' HO_13.out).2.2 (ji32) p414 q414
                cases e414
                replace p414 := eq_true p414
                replace q414 := eq_true q414
                have p40 : 0 ≤ ((ji32) : Int) := of_decide_eq_true (by first | (with_reducible assumption) | assumption)
                have q40 : ((ji32) : Int) < ((x13_3.length : Int) : Int) := of_decide_eq_true (by first | (with_reducible assumption) | assumption)
                obtain ⟨go40, co40, eo40, gb40, gl40, cl40, HG40⟩ := Kd.B_form HO_13.out (by omega)
                (first | cases eo40 | (injection eo40 with ea_ en_ ec_; (first | subst ea_ | (injection ea_ with ea_; subst ea_)); subst ec_; clear en_))
                have GB40 := Aside0.mk gb40
                have GG40 := Aside0.mk HG40
                clear gb40 gl40 HG40
                (first | simp only [add_plain] at hx414_0 | skip)
                obtain ⟨hx40_0, hf40_0⟩ := Kd.B_celln 0 HO_13.out ((ji32) : Int) p40 q40
                replace p40 := eq_true p40
                replace q40 := eq_true q40
                have HP42 := Kd.B_putn HO_13.out ((ji32) : Int) (Go.bits .xor .u8 (rd x13_3 (ji32)) (ji39))
                rw [← Ny415.out] at HP42
                have HQ42 := Aside0.mk HP42
                clear HP42
                refine start_ (n := 20) (S := fun w' => w'.cell? ⟨go40, ((ji32)).toNat, none⟩ = some (.int .u8 (rd x13_3 (ji32)))) (ds := [19]) #[false, false, false, false, false, false, false, false, false, false, false, false, false, false, false, false, false, false, false, false] (by kernel_rfl) rfl rfl (hx414_0) (fun hHeld => ?_); refine with_tabW boomeranglaw3_FrameSpoilt.tab12 boomeranglaw3_FrameSpoilt.bits12 (fun HT_ HW_ => ?_)
                generalize wr.drew = w41 at HO_13 HB GG40 HQ42 hf40_0 hx40_0 hx414_0 hHeld ⊢
                refine pure_ (i := 0) (N := some 85) (v := ?_) (a' := ?_) #[true, false, false, false, false, false, false, false, false, false, false, false, false, false, false, false, false, false, false, false] rfl rfl (any_of HT_.out (by kernel_rfl)) (fun _ _ _ h => h) (Or.inl ⟨by rfl, ?_⟩) ?_ ?_
                rotate_left
                ·intro w'
                 go_simp
                 with_reducible rfl
                rotate_left
                ·simp only [Act.put, List.setIfInBounds_toArray, List.set_cons_zero, List.set_cons_succ, i64_w, i32_w]
                 rfl
                refine pure_ (i := 1) (N := some 86) (v := ?_) (a' := ?_) #[true, true, false, false, false, false, false, false, false, false, false, false, false, false, false, false, false, false, false, false] rfl rfl (any_of HT_.out (by kernel_rfl)) (fun _ _ _ h => h) (Or.inl ⟨by rfl, ?_⟩) ?_ ?_
                rotate_left
                ·intro w'
                 go_simp
                 with_reducible rfl
                rotate_left
                ·simp only [Act.put, List.setIfInBounds_toArray, List.set_cons_zero, List.set_cons_succ, i64_w, i32_w]
                 rfl
                refine pure_ (i := 2) (N := some 87) (v := ?_) (a' := ?_) #[true, true, true, false, false, false, false, false, false, false, false, false, false, false, false, false, false, false, false, false] rfl rfl (any_of HT_.out (by kernel_rfl)) (fun _ _ _ h => h) (Or.inl ⟨by rfl, ?_⟩) ?_ ?_
                rotate_left
                ·intro w'
                 go_simp
                 with_reducible rfl
                rotate_left
                ·simp only [Act.put, List.setIfInBounds_toArray, List.set_cons_zero, List.set_cons_succ, i64_w, i32_w]
                 rfl
                refine pure_ (i := 3) (N := some 88) (v := ?_) (a' := ?_) #[true, true, true, true, false, false, false, false, false, false, false, false, false, false, false, false, false, false, false, false] rfl rfl (any_of HT_.out (by kernel_rfl)) (fun _ _ _ h => h) (Or.inl ⟨by rfl, ?_⟩) ?_ ?_
                rotate_left
                ·intro w'
                 go_simp
                 with_reducible rfl
                rotate_left
                ·simp only [Act.put, List.setIfInBounds_toArray, List.set_cons_zero, List.set_cons_succ, i64_w, i32_w]
                 rfl
                refine pure_ (i := 4) (N := some 89) (v := ?_) (a' := ?_) #[true, true, true, true, true, false, false, false, false, false, false, false, false, false, false, false, false, false, false, false] rfl rfl (any_of HT_.out (by kernel_rfl)) (fun _ _ _ h => h) (Or.inl ⟨by rfl, ?_⟩) ?_ ?_
                rotate_left
                ·intro w'
                 go_simp
                 with_reducible rfl
                rotate_left
                ·simp only [Act.put, List.setIfInBounds_toArray, List.set_cons_zero, List.set_cons_succ, i64_w, i32_w]
                 rfl
                refine pure_ (i := 5) (N := some 90) (v := ?_) (a' := ?_) #[true, true, true, true, true, true, false, false, false, false, false, false, false, false, false, false, false, false, false, false] rfl rfl (any_of HT_.out (by kernel_rfl)) (fun _ _ _ h => h) (Or.inl ⟨by rfl, ?_⟩) ?_ ?_
                rotate_left
                ·intro w'
                 go_simp
                 with_reducible rfl
                rotate_left
                ·simp only [Act.put, List.setIfInBounds_toArray, List.set_cons_zero, List.set_cons_succ, i64_w, i32_w]
                 rfl
                refine pure_ (i := 7) (N := some 92) (v := ?_) (a' := ?_) #[true, true, true, true, true, true, false, true, false, false, false, false, false, false, false, false, false, false, false, false] rfl rfl (any_of HT_.out (by kernel_rfl)) (fun _ _ _ h => h) (Or.inl ⟨by rfl, ?_⟩) ?_ ?_
                rotate_left
                ·intro w'
                 go_simp
                 with_reducible rfl
                rotate_left
                ·simp only [Act.put, List.setIfInBounds_toArray, List.set_cons_zero, List.set_cons_succ, i64_w, i32_w]
                 rfl
                refine pure_ (i := 8) (N := some 93) (v := ?_) (a' := ?_) #[true, true, true, true, true, true, false, true, true, false, false, false, false, false, false, false, false, false, false, false] rfl rfl (any_of HT_.out (by kernel_rfl)) (fun _ _ _ h => h) (Or.inl ⟨by rfl, ?_⟩) ?_ ?_
                rotate_left
                ·intro w'
                 go_simp
                 with_reducible rfl
                rotate_left
                ·simp only [Act.put, List.setIfInBounds_toArray, List.set_cons_zero, List.set_cons_succ, i64_w, i32_w]
                 rfl
                refine pure_ (i := 9) (N := some 94) (v := ?_) (a' := ?_) #[true, true, true, true, true, true, false, true, true, true, false, false, false, false, false, false, false, false, false, false] rfl rfl (any_of HT_.out (by kernel_rfl)) (fun _ _ _ h => h) (Or.inl ⟨by rfl, ?_⟩) ?_ ?_
                rotate_left
                ·intro w'
                 go_simp
                 with_reducible rfl
                rotate_left
                ·simp only [Act.put, List.setIfInBounds_toArray, List.set_cons_zero, List.set_cons_succ, i64_w, i32_w]
                 rfl
                refine pure_ (i := 10) (N := some 95) (v := ?_) (a' := ?_) #[true, true, true, true, true, true, false, true, true, true, true, false, false, false, false, false, false, false, false, false] rfl rfl (any_of HT_.out (by kernel_rfl)) (fun _ _ _ h => h) (Or.inl ⟨by rfl, ?_⟩) ?_ ?_
                rotate_left
                ·intro w'
                 go_simp
                 with_reducible rfl
                rotate_left
                ·simp only [Act.put, List.setIfInBounds_toArray, List.set_cons_zero, List.set_cons_succ, i64_w, i32_w]
                 rfl
                refine pure_ (i := 11) (N := some 96) (v := ?_) (a' := ?_) #[true, true, true, true, true, true, false, true, true, true, true, true, false, false, false, false, false, false, false, false] rfl rfl (any_of HT_.out (by kernel_rfl)) (fun _ _ _ h => h) (Or.inl ⟨by rfl, ?_⟩) ?_ ?_
                rotate_left
                ·intro w'
                 go_simp
                 with_reducible rfl
                rotate_left
                ·simp only [Act.put, List.setIfInBounds_toArray, List.set_cons_zero, List.set_cons_succ, i64_w, i32_w]
                 rfl
                refine pure_ (i := 12) (N := some 97) (v := ?_) (a' := ?_) #[true, true, true, true, true, true, false, true, true, true, true, true, true, false, false, false, false, false, false, false] rfl rfl (any_of HT_.out (by kernel_rfl)) (fun _ _ _ h => h) (Or.inl ⟨by rfl, ?_⟩) ?_ ?_
                rotate_left
                ·intro w'
                 go_simp
                 with_reducible rfl
                rotate_left
                ·simp only [Act.put, List.setIfInBounds_toArray, List.set_cons_zero, List.set_cons_succ, i64_w, i32_w]
                 rfl
                refine pure_ (i := 13) (N := some 98) (v := ?_) (a' := ?_) #[true, true, true, true, true, true, false, true, true, true, true, true, true, true, false, false, false, false, false, false] rfl rfl (any_of HT_.out (by kernel_rfl)) (fun _ _ _ h => h) (Or.inl ⟨by rfl, ?_⟩) ?_ ?_
                rotate_left
                ·intro w'
                 go_simp
                 with_reducible rfl
                rotate_left
                ·simp only [Act.put, List.setIfInBounds_toArray, List.set_cons_zero, List.set_cons_succ, i64_w, i32_w]
                 rfl
                refine pure_ (i := 14) (N := some 99) (v := ?_) (a' := ?_) #[true, true, true, true, true, true, false, true, true, true, true, true, true, true, true, false, false, false, false, false] rfl rfl (any_of HT_.out (by kernel_rfl)) (fun _ _ _ h => h) (Or.inl ⟨by rfl, ?_⟩) ?_ ?_
                rotate_left
                ·intro w'
                 go_simp
                 with_reducible rfl
                rotate_left
                ·simp only [Act.put, List.setIfInBounds_toArray, List.set_cons_zero, List.set_cons_succ, i64_w, i32_w]
                 rfl
                refine pure_ (i := 15) (N := some 100) (v := ?_) (a' := ?_) #[true, true, true, true, true, true, false, true, true, true, true, true, true, true, true, true, false, false, false, false] rfl rfl (any_of HT_.out (by kernel_rfl)) (fun _ _ _ h => h) (Or.inl ⟨by rfl, ?_⟩) ?_ ?_
                rotate_left
                ·intro w'
                 go_simp
                 with_reducible rfl
                rotate_left
                ·simp only [Act.put, List.setIfInBounds_toArray, List.set_cons_zero, List.set_cons_succ, i64_w, i32_w]
                 rfl
                refine pure_ (i := 16) (N := some 101) (v := ?_) (a' := ?_) #[true, true, true, true, true, true, false, true, true, true, true, true, true, true, true, true, true, false, false, false] rfl rfl (any_of HT_.out (by kernel_rfl)) (fun _ _ _ h => h) (Or.inl ⟨by rfl, ?_⟩) ?_ ?_
                rotate_left
                ·intro w'
                 go_simp
                 with_reducible rfl
                rotate_left
                ·simp only [Act.put, List.setIfInBounds_toArray, List.set_cons_zero, List.set_cons_succ, i64_w, i32_w]
                 rfl
                refine take_ (i := 6) (N := some 91) (v := ?_) (a' := ?_) #[true, true, true, true, true, true, true, true, true, true, true, true, true, true, true, true, true, false, false, false] rfl rfl (take_ofW HT_.out HW_.out (by kernel_rfl)) (fun _ _ _ h => h) (Or.inl ⟨by rfl, ?_⟩) hHeld ?_ ?_
                rotate_left
                ·intro w' s0
                 go_simp
                 with_reducible rfl
                rotate_left
                ·simp only [Act.put, List.setIfInBounds_toArray, List.set_cons_zero, List.set_cons_succ, i64_w, i32_w]
                 rfl
                refine pure_ (i := 17) (N := some 102) (v := ?_) (a' := ?_) #[true, true, true, true, true, true, true, true, true, true, true, true, true, true, true, true, true, true, false, false] rfl rfl (any_of HT_.out (by kernel_rfl)) (fun _ _ _ h => h) (Or.inl ⟨by rfl, ?_⟩) ?_ ?_
                rotate_left
                ·intro w'
                 go_simp
                 with_reducible rfl
                rotate_left
                ·simp only [Act.put, List.setIfInBounds_toArray, List.set_cons_zero, List.set_cons_succ, i64_w, i32_w]
                 rfl
                refine pure_ (i := 18) (N := some 103) (v := ?_) (a' := ?_) #[true, true, true, true, true, true, true, true, true, true, true, true, true, true, true, true, true, true, true, false] rfl rfl (any_of HT_.out (by kernel_rfl)) (fun _ _ _ h => h) (Or.inl ⟨by rfl, ?_⟩) ?_ ?_
                rotate_left
                ·intro w'
                 go_simp
                 with_reducible rfl
                rotate_left
                ·simp only [Act.put, List.setIfInBounds_toArray, List.set_cons_zero, List.set_cons_succ, i64_w, i32_w]
                 rfl
                refine last_ (i := 19) (N := none) #[true, true, true, true, true, true, true, true, true, true, true, true, true, true, true, true, true, true, true, true] rfl rfl (one_of HT_.out (by kernel_rfl)) (by decide) (fun K hK => ?_)
                refine skip_ (w1 := ?_) (by rfl) rfl ?_ ?_
                rotate_left
                ·go_simp
                 rfl
                refine hK.out _ _ ?_
                clear hK K
                refine done_ (done_of HT_.out (by kernel_rfl)) ?_
                try go_wp2
                (try simp only [← hl13_3])
                go_roundg k3
                case measure => have := HJ4.out; have := HJ12.out; have := HK3.out; omega
                case rel => exact ⟨(y415), (wrap64 (x15_3 + 1)), (by first | rfl | (simp; done) | (simp [*]; done)), H', ⟨by have := HJ4.out; have := HJ12.out; have := HK3.out; omega⟩, ⟨by (try simp only [hl13_3]); (with_reducible repeat (first | apply Kd.B_alloc | apply Kd.B_drewN | apply Kd.B_drew)); first | exact HQ42.out | (simp only [hji36_, hji39_]; exact HQ42.out) | (simp only [IntKind.wrap_u8] at hji36_ hji39_; simp only [hji36_, hji39_]; exact HQ42.out)⟩, ⟨by repeat (first | (with_reducible first | exact HB.out | apply below_alloc | apply pw_below_drewN | apply below_drew1 | refine below_set ?_ GB40.out) | exact HB.out)⟩⟩
               ·rw [if_neg c38] at H
                exact absurd H (by simp)
              ·rw [if_neg c35] at H
               exact absurd H (by simp)
             ·rw [if_neg c34] at H
              exact absurd H (by simp)
            ·rw [if_neg c33] at H
             exact absurd H (by simp)
           ·rw [if_neg c31] at H
            have c31b0 : decide (x15_3 < 32) = false := decide_eq_false c31
            clear c31
            by_cases c43 : (strOfNums x13_3).size + t404.size ≤ 9223372036854775807
            ·rw [if_pos c43] at H
             have c43b0 := eq_true c43
             have c43b1 : decide ((strOfNums x13_3).size + t404.size ≤ 9223372036854775807) = true := decide_eq_true c43
             try have c43b2 : (9223372036854775807 < (strOfNums x13_3).size + t404.size) = False := eq_false (Nat.not_lt.2 c43)
             replace H := Option.bind_eq_some_iff.mp H
             obtain ⟨⟨t416, t417, t418⟩, A440, H⟩ := H
             replace H : (if (t416.length : Int) = 0 then (if t417 = 0 then ((boomeranglaw1_Err.f t418).bind fun t421 => (if t421 = 5 then ((boomeranglaw3_awake.f k3).bind fun t422 => (some t422)) else (some false))) else (some false)) else (some false)) = some r := H
             have A44 := Aside0.mk A440
             clear A440
             by_cases c45 : (t416.length : Int) = 0
             ·rw [if_pos c45] at H
              have c45b0 : ((t416.length : Int) == 0) = true := beq_iff_eq.mpr c45
              have c45b1 : ((t416.length : Int) != 0) = false := bne_eq_false_iff_eq.mpr c45
              clear c45
              by_cases c46 : t417 = 0
              ·rw [if_pos c46] at H
               have c46b0 : (t417 == 0) = true := beq_iff_eq.mpr c46
               have c46b1 : (t417 != 0) = false := bne_eq_false_iff_eq.mpr c46
               clear c46
               replace H := Option.bind_eq_some_iff.mp H
               obtain ⟨t421, A470, H⟩ := H
               replace H : (if t421 = 5 then ((boomeranglaw3_awake.f k3).bind fun t422 => (some t422)) else (some false)) = some r := H
               have A47 := Aside0.mk A470
               clear A470
               by_cases c48 : t421 = 5
               ·rw [if_pos c48] at H
                have c48b0 : (t421 == 5) = true := beq_iff_eq.mpr c48
                have c48b1 : (t421 != 5) = false := bne_eq_false_iff_eq.mpr c48
                clear c48
                replace H := Option.bind_eq_some_iff.mp H
                obtain ⟨t422, A490, H⟩ := H
                (try (have zc48b0_t422 : (t422 == 5) = true := by rw [← Option.some.inj (A47.out.symm.trans A490)]; exact c48b0))
                (try (have yc48b0_t422 : (t422 != 5) = false := by have h_ := zc48b0_t422; simpa using h_))
                replace H : (some t422) = some r := H
                have A49 := Aside0.mk A490
                clear A490
                obtain rfl := Option.some.inj H
                have hcv50 := Kd.B_string (P := Try.prog) Try.underlying22 Try.underlying5 Try.underlying9 HO_13.out
                go_wp2_with (first | ((with_reducible refine gate_callee (f := 23) rfl ?_); refine goesL_ (some 109) rfl rfl Try.func23 (by kernel_rfl) rfl #[.string ((strOfNums x13_3) ++ t404)] rfl (by (try simp only [List.map_toArray, List.map_cons, List.map_nil]); first | done | rfl | (simp only [List.length_drop, List.length_take]; rfl)) ?_; (with_reducible refine (frame_All.calls k3 ((strOfNums x13_3) ++ t404) t416 t417 t418 _ A44.out).mono ?_); rintro e w51 ⟨v419, rfl, ho0, hb⟩; refine ⟨_, rfl, ?_⟩; have n0_ := Aside0.mk (Kd.B_below (by (with_reducible repeat (first | apply Kd.B_alloc | apply Kd.B_drewN | apply Kd.B_drew)); exact HO_13.out) hb); have n1_ := Aside0.mk (Kd.R_lower ho0 (below_size (by repeat (first | (with_reducible first | exact HB.out | apply below_alloc | apply pw_below_drewN | apply below_drew1) | exact HB.out)))); have n2_ := Aside0.mk (below_step (by repeat (first | (with_reducible first | exact HB.out | apply below_alloc | apply pw_below_drewN | apply below_drew1) | exact HB.out)) hb); clear HO_13; clear HB; have HO_13 := n0_; have HO420 := n1_; have HB := n2_; clear n0_ n1_ n2_; (try clear hb); (try clear hb2); (try clear hk); (try clear hi); (try clear ho0); obtain ⟨Ao52, co52, eo52⟩ := Kd.R_slice HO420.out; subst eo52) | (go_at_call 19; (with_reducible refine (boomeranglaw1_Err.calls t418 t421 _ A47.out).mono ?_); rintro e w' ⟨rfl, ⟨nd, rfl⟩⟩) | (go_at_call 20; (with_reducible refine (boomeranglaw3_awake.calls k3  t422 _ A49.out).mono ?_); rintro e w53 ⟨rfl, hb⟩; have n0_ := Aside0.mk (Kd.B_below (by (with_reducible repeat (first | apply Kd.B_alloc | apply Kd.B_drewN | apply Kd.B_drew)); exact HO_13.out) hb); have n1_ := Aside0.mk (Kd.R_below (by (with_reducible repeat (first | apply Kd.R_alloc | apply Kd.R_drewN | apply Kd.R_drew)); exact HO420.out) hb); have n2_ := Aside0.mk (below_step (by repeat (first | (with_reducible first | exact HB.out | apply below_alloc | apply pw_below_drewN | apply below_drew1) | exact HB.out)) hb); clear HO_13; clear HO420; clear HB; have HO_13 := n0_; have HO420 := n1_; have HB := n2_; clear n0_ n1_ n2_; (try clear hb); (try clear hb2); (try clear hk); (try clear hi)))
                go_ret
                exact ⟨by first | rfl | (simp [errW_none, errW_some] <;> rfl) | (simp [*, errW_none, errW_some] <;> rfl), by repeat (first | (with_reducible first | exact HB.out | apply below_alloc | apply pw_below_drewN | apply below_drew1) | exact HB.out)⟩
               ·rw [if_neg c48] at H
                exact absurd (H.trans (congrArg some HRT.out)) (by simp)
              ·rw [if_neg c46] at H
               exact absurd (H.trans (congrArg some HRT.out)) (by simp)
             ·rw [if_neg c45] at H
              exact absurd (H.trans (congrArg some HRT.out)) (by simp)
            ·rw [if_neg c43] at H
             exact absurd H (by simp)
       ·rw [if_neg c26] at H
        exact absurd H (by simp)

/-- THE ONE PURE STATEMENT of boomeranglaw3_FrameSpoilt: yours. -/
def boomeranglaw3_FrameSpoilt.Pure : Prop := ∀ (a0 : ByteArray) (a1 : ByteArray) (a2 : Int) (a3 : Int), a0.size ≤ 140737488351232 → a1.size ≤ 140737488351232 → (Lit.int .u16 a2).wf = true → (Lit.int .u32 a3).wf = true → ∃ k, boomeranglaw3_FrameSpoilt.f k a0 a1 a2 a3 = some true
theorem boomeranglaw3_FrameSpoilt.walk (P : boomeranglaw3_FrameSpoilt.Pure) (a0 : ByteArray) (a1 : ByteArray) (a2 : Int) (a3 : Int) (w : World) (w0 : a0.size ≤ 140737488351232) (w1 : a1.size ≤ 140737488351232) (w2 : (Lit.int .u16 a2).wf = true) (w3 : (Lit.int .u32 a3).wf = true) :
  Calls Try.prog 11 #[.string a0, .string a1, .int .u16 a2, .int .u32 a3] w fun e w' => e = .returned (.bool true) ∧ Below w.heap.size w w' := by
 obtain ⟨k, h⟩ := P a0 a1 a2 a3 w0 w1 w2 w3
 refine (boomeranglaw3_FrameSpoilt.calls k a0 a1 a2 a3 true w h rfl).mono ?_
 rintro e w' ⟨rfl, hd⟩
 exact ⟨rfl, hd⟩

end Go.Proofs.Ythhigjfkekdmiaa.M
