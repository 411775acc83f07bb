-- Written by a program of this session (wip/tools/mine.sh), out of the translation and hand-given contracts.
import Derived.Test.YthhigjfkekdmiaaM0
import Derived.Test.YthhigjfkekdmiaaM2
import Derived.Test.YthhigjfkekdmiaaM4
import Derived.Test.YthhigjfkekdmiaaM6
import Derived.Test.YthhigjfkekdmiaaM7
namespace Go.Proofs.Ythhigjfkekdmiaa.M
open Go.RowKit Go.Proofs.YthhigjfkekdmiaaW.PrintWords Go.Proofs.YthhigjfkekdmiaaW.PrintLast Go.Proofs.YthhigjfkekdmiaaW.PrintMore
attribute [local go_sem] max2_int min2_int max_two min_two max_three min_three max_four min_four   -- for this text's walks alone
set_option linter.unusedVariables false
set_option linter.unusedSimpArgs false

/-! ### boomeranglaw2_CrcBursts: function 6 -/
mutual
def boomeranglaw2_CrcBursts.j0 : Nat → Int → Int → ByteArray → Bool → Option (Bool)
 | 0, _, _, _, _ => none
 | k + 1, x1, x2, x7, x43 => if x43 = true then (some false) else (if x7.size ≤ 9223372036854775807 then ((some (bytesOf x7 : List Int)).bind fun y163 => (if (wrap64 ((wrap64 (8 * (y163.length : Int))) - 31)) = 0 then (none) else (boomeranglaw2_CrcBursts.l0 k x2 x7 y163 (Int.tmod (wrap64 (x1)) (wrap64 ((wrap64 (8 * (y163.length : Int))) - 31))) 0))) else (none))
def boomeranglaw2_CrcBursts.l0 : Nat → Int → ByteArray → List Int → Int → Int → Option (Bool)
 | 0, _, _, _, _, _ => none
 | k + 1, x2, x7, x10, x11, x12 => if x12 < 32 then (if 0 ≤ (wrap64 (Int.tdiv (wrap64 (x11 + x12)) 8)) then (if (wrap64 (Int.tdiv (wrap64 (x11 + x12)) 8)) < (x10.length : Int) then (if 0 ≤ x12 then (if 0 ≤ (Int.tmod (wrap64 (x11 + x12)) 8) then (boomeranglaw2_CrcBursts.l0 k x2 x7 (x10.set ((wrap64 (Int.tdiv (wrap64 (x11 + x12)) 8)) : Int).toNat (Go.bits .xor .u8 (rd x10 (wrap64 (Int.tdiv (wrap64 (x11 + x12)) 8))) (shl .u8 ((Go.bits .and .u32 (shr .u32 x2 x12) 1) % 256) (Int.tmod (wrap64 (x11 + x12)) 8)))) x11 (wrap64 (x12 + 1))) else (none)) else (none)) else (none)) else (none)) else ((crc_Get.f (strOfNums x10)).bind fun bt168 => (if 3 ≤ (x7.size : Int) then ((crc_Get.f (x7.extract 0 3)).bind fun bt170 => ((boomeranglaw1_Err.f bt168.2).bind fun t172 => (if t172 = 5 then (if bt168.1.toList = ([] : List UInt8) then ((boomeranglaw1_Err.f bt170.2).bind fun t173 => (if t173 = 3 then ((boomeranglaw2_awake.f).bind fun t174 => (some t174)) else (some false))) else (if x2 = 0 then ((boomeranglaw1_Err.f bt168.2).bind fun t175 => (if t175 = 0 then ((boomeranglaw1_Err.f bt170.2).bind fun t176 => (if t176 = 3 then ((boomeranglaw2_awake.f).bind fun t177 => (some t177)) else (some false))) else (some false))) else (some false))) else (if x2 = 0 then ((boomeranglaw1_Err.f bt168.2).bind fun t178 => (if t178 = 0 then ((boomeranglaw1_Err.f bt170.2).bind fun t179 => (if t179 = 3 then ((boomeranglaw2_awake.f).bind fun t180 => (some t180)) else (some false))) else (some false))) else (some false))))) else (none)))
end
def boomeranglaw2_CrcBursts.f (k : Nat) (a0 : ByteArray) (a1 : Int) (a2 : Int) : Option (Bool) := if (a0.size : Int) > 300 then ((boomeranglaw2_awake.f).bind fun t158 => (some t158)) else ((crc_Put.f a0).bind fun t159 => ((crc_Get.f t159).bind fun bt160 => (if (t159.size : Int) = (wrap64 ((a0.size : Int) + 4)) then (if bt160.1.toList = a0.toList then ((boomeranglaw1_Err.f bt160.2).bind fun t162 => (boomeranglaw2_CrcBursts.j0 k a1 a2 t159 (t162 != 0))) else (boomeranglaw2_CrcBursts.j0 k a1 a2 t159 true)) else (boomeranglaw2_CrcBursts.j0 k a1 a2 t159 true))))
theorem boomeranglaw2_CrcBursts.mono_l : ∀ k, (∀ y0 y1 y2 y3, LeO (boomeranglaw2_CrcBursts.j0 k y0 y1 y2 y3) (boomeranglaw2_CrcBursts.j0 (k + 1) y0 y1 y2 y3)) ∧ (∀ y0 y1 y2 y3 y4, LeO (boomeranglaw2_CrcBursts.l0 k y0 y1 y2 y3 y4) (boomeranglaw2_CrcBursts.l0 (k + 1) y0 y1 y2 y3 y4))
 | 0 => ⟨fun _ _ _ _ r h => by simp [boomeranglaw2_CrcBursts.j0] at h, fun _ _ _ _ _ r h => by simp [boomeranglaw2_CrcBursts.l0] at h⟩
 | k + 1 => by
  obtain ⟨ih0, ih1⟩ := boomeranglaw2_CrcBursts.mono_l k
  refine ⟨?_, ?_⟩
  ·intro y0 y1 y2 y3
   unfold boomeranglaw2_CrcBursts.j0
   repeat' first
   | (with_reducible exact ih0 _ _ _ _)
   | (with_reducible exact ih1 _ _ _ _ _)
   | (with_reducible exact LeO.refl _)
   | (with_reducible exact LeO.none _)
   | (with_reducible refine LeO.ite ?_ ?_)
   | (with_reducible refine LeO.bind ?_ (fun _ => ?_))
   | exact ih0 _ _ _ _
   | exact ih1 _ _ _ _ _
   | exact LeO.none _
   | refine LeO.ite ?_ ?_
   | refine LeO.bind ?_ (fun _ => ?_)
  ·intro y0 y1 y2 y3 y4
   unfold boomeranglaw2_CrcBursts.l0
   repeat' first
   | (with_reducible exact ih0 _ _ _ _)
   | (with_reducible exact ih1 _ _ _ _ _)
   | (with_reducible exact LeO.refl _)
   | (with_reducible exact LeO.none _)
   | (with_reducible refine LeO.ite ?_ ?_)
   | (with_reducible refine LeO.bind ?_ (fun _ => ?_))
   | exact ih0 _ _ _ _
   | exact ih1 _ _ _ _ _
   | exact LeO.none _
   | refine LeO.ite ?_ ?_
   | refine LeO.bind ?_ (fun _ => ?_)
theorem boomeranglaw2_CrcBursts.mono : ∀ a0 a1 a2 k, LeO (boomeranglaw2_CrcBursts.f k a0 a1 a2) (boomeranglaw2_CrcBursts.f (k + 1) a0 a1 a2) := by
 intro a0 a1 a2 k
 obtain ⟨ih0, ih1⟩ := boomeranglaw2_CrcBursts.mono_l k
 unfold boomeranglaw2_CrcBursts.f
 repeat' first
   | (with_reducible exact ih0 _ _ _ _)
   | (with_reducible exact ih1 _ _ _ _ _)
   | (with_reducible exact LeO.refl _)
   | (with_reducible exact LeO.none _)
   | (with_reducible refine LeO.ite ?_ ?_)
   | (with_reducible refine LeO.bind ?_ (fun _ => ?_))
   | exact ih0 _ _ _ _
   | exact ih1 _ _ _ _ _
   | exact LeO.none _
   | refine LeO.ite ?_ ?_
   | refine LeO.bind ?_ (fun _ => ?_)
def boomeranglaw2_CrcBursts.T12 : Bool × List (List Nat × List Nat) := (true, [([], []), ([], []), ([], []), ([1, 2], [1, 2]), ([3], [3]), ([0, 4], [0, 4]), ([5], [5]), ([], []), ([], []), ([7, 8], [7, 8]), ([9], [9]), ([10], [10]), ([], []), ([], []), ([12, 13], [12, 13]), ([14], [14]), ([11, 15], [11, 15]), ([6, 16], [6, 16]), ([0, 4, 0, 1, 2, 3, 4, 5, 6, 7, 8, 9, 10, 11, 12, 13, 14, 15, 16, 17], [0, 4]), ([18, 17, 0, 1, 2, 3, 4, 5, 6, 7, 8, 9, 10, 11, 12, 13, 14, 15, 16, 17], [17, 18])])
def boomeranglaw2_CrcBursts.B12 : List Nat := [0, 0, 0, 6, 14, 31, 63, 0, 0, 384, 896, 1920, 0, 0, 12288, 28672, 65408, 131071, 262143, 524287]
theorem boomeranglaw2_CrcBursts.tab12 : rtab .any (opsOf Try.f6 12) = boomeranglaw2_CrcBursts.T12 := by kernel_rfl
theorem boomeranglaw2_CrcBursts.bits12 : waitsOk boomeranglaw2_CrcBursts.T12.2 boomeranglaw2_CrcBursts.B12 = true := by kernel_rfl
set_option maxHeartbeats 8000000 in
set_option maxRecDepth 100000 in
theorem boomeranglaw2_CrcBursts.calls (k : Nat) (a0 : ByteArray) (a1 : Int) (a2 : Int) (r : Bool) (w : World) (h : boomeranglaw2_CrcBursts.f k a0 a1 a2 = some r) (hrt : r = true) :
  Calls Try.prog 6 #[.string a0, .int .u16 a1, .int .u32 a2] w fun e w' => e = .returned (.bool r) ∧ Below w.heap.size w w' := by
 have HRT := Aside0.mk hrt
 clear hrt
 have HB := Aside0.mk (Below.refl w.heap.size w)
 have H : (if (a0.size : Int) > 300 then ((boomeranglaw2_awake.f).bind fun t158 => (some t158)) else ((crc_Put.f a0).bind fun t159 => ((crc_Get.f t159).bind fun bt160 => (if (t159.size : Int) = (wrap64 ((a0.size : Int) + 4)) then (if bt160.1.toList = a0.toList then ((boomeranglaw1_Err.f bt160.2).bind fun t162 => (boomeranglaw2_CrcBursts.j0 k a1 a2 t159 (t162 != 0))) else (boomeranglaw2_CrcBursts.j0 k a1 a2 t159 true)) else (boomeranglaw2_CrcBursts.j0 k a1 a2 t159 true))))) = some r := h
 clear h
 by_cases c4 : (a0.size : Int) > 300
 ·rw [if_pos c4] at H
  have c4b0 : decide (300 < (a0.size : Int)) = true := decide_eq_true c4
  have c4b1 : decide (300 < a0.size) = true := decide_eq_true (by omega)
  clear c4
  replace H := Option.bind_eq_some_iff.mp H
  obtain ⟨t158, A50, H⟩ := H
  replace H : (some t158) = some r := H
  have A5 := Aside0.mk A50
  clear A50
  obtain rfl := Option.some.inj H
  go_enter Try.func6, Try.ntmps6
  go_wp2_with (first | ((with_reducible refine gate_callee (f := 13) rfl ?_); refine goesL_ (some 20) rfl rfl Try.func13 (by kernel_rfl) rfl #[] rfl (by (try simp only [List.map_toArray, List.map_cons, List.map_nil]); first | done | rfl | (simp only [List.length_drop, List.length_take]; rfl)) ?_; (with_reducible refine (boomeranglaw2_awake.calls  t158 _ A5.out).mono ?_); rintro e w6 ⟨rfl, hb⟩; refine ⟨_, rfl, ?_⟩; have n0_ := Aside0.mk (below_step (by repeat (first | (with_reducible first | exact HB.out | apply below_alloc | apply pw_below_drewN | apply below_drew1) | exact HB.out)) hb); clear HB; have HB := n0_; clear n0_; (try clear hb); (try clear hb2); (try clear hk); (try clear hi)))
  go_ret
  exact ⟨by first | rfl | (simp [errW_none, errW_some] <;> rfl) | (simp [*, errW_none, errW_some] <;> rfl), by repeat (first | (with_reducible first | exact HB.out | apply below_alloc | apply pw_below_drewN | apply below_drew1) | exact HB.out)⟩
 ·rw [if_neg c4] at H
  have c4b0 : decide (300 < (a0.size : Int)) = false := decide_eq_false c4
  have c4b1 : decide (300 < a0.size) = false := decide_eq_false (by omega)
  clear c4
  replace H := Option.bind_eq_some_iff.mp H
  obtain ⟨t159, A70, H⟩ := H
  replace H : ((crc_Get.f t159).bind fun bt160 => (if (t159.size : Int) = (wrap64 ((a0.size : Int) + 4)) then (if bt160.1.toList = a0.toList then ((boomeranglaw1_Err.f bt160.2).bind fun t162 => (boomeranglaw2_CrcBursts.j0 k a1 a2 t159 (t162 != 0))) else (boomeranglaw2_CrcBursts.j0 k a1 a2 t159 true)) else (boomeranglaw2_CrcBursts.j0 k a1 a2 t159 true))) = some r := H
  have A7 := Aside0.mk A70
  clear A70
  replace H := Option.bind_eq_some_iff.mp H
  obtain ⟨⟨t160, t161⟩, A80, H⟩ := H
  replace H : (if (t159.size : Int) = (wrap64 ((a0.size : Int) + 4)) then (if t160.toList = a0.toList then ((boomeranglaw1_Err.f t161).bind fun t162 => (boomeranglaw2_CrcBursts.j0 k a1 a2 t159 (t162 != 0))) else (boomeranglaw2_CrcBursts.j0 k a1 a2 t159 true)) else (boomeranglaw2_CrcBursts.j0 k a1 a2 t159 true)) = some r := H
  have A8 := Aside0.mk A80
  clear A80
  have HC9 := Aside0.mk H
  clear H
  go_enter Try.func6, Try.ntmps6
  go_upto_region 5 with (first | ((with_reducible refine gate_callee (f := 14) rfl ?_); refine goesL_ (some 22) rfl rfl Try.func14 (by kernel_rfl) rfl #[.string a0] rfl (by (try simp only [List.map_toArray, List.map_cons, List.map_nil]); first | done | rfl | (simp only [List.length_drop, List.length_take]; rfl)) ?_; (with_reducible refine (crc_Put.calls a0 t159 _ A7.out).mono ?_); rintro e w10 ⟨rfl, hb⟩; refine ⟨_, rfl, ?_⟩; have n0_ := Aside0.mk (below_step (by repeat (first | (with_reducible first | exact HB.out | apply below_alloc | apply pw_below_drewN | apply below_drew1) | exact HB.out)) hb); clear HB; have HB := n0_; clear n0_; (try clear hb); (try clear hb2); (try clear hk); (try clear hi)) | ((with_reducible refine gate_callee (f := 15) rfl ?_); refine goesL_ (some 25) rfl rfl Try.func15 (by kernel_rfl) rfl #[.string t159] rfl (by (try simp only [List.map_toArray, List.map_cons, List.map_nil]); first | done | rfl | (simp only [List.length_drop, List.length_take]; rfl)) ?_; (with_reducible refine (crc_Get.calls t159 t160 t161 _ A8.out).mono ?_); rintro e w11 ⟨rfl, hb⟩; refine ⟨_, rfl, ?_⟩; have n0_ := Aside0.mk (below_step (by repeat (first | (with_reducible first | exact HB.out | apply below_alloc | apply pw_below_drewN | apply below_drew1) | exact HB.out)) hb); clear HB; have HB := n0_; clear n0_; (try clear hb); (try clear hb2); (try clear hk); (try clear hi)))
  (try simp only [Act.put, List.setIfInBounds_toArray, List.set_cons_zero, List.set_cons_succ])
  go_cut [43] (fun v43 wc => ∃ (kq : Nat) (x43_8 : Bool), v43 = .bool x43_8 ∧ Aside0 (boomeranglaw2_CrcBursts.j0 kq a1 a2 t159 x43_8 = some r) ∧ Aside0 (kq ≤ k) ∧ Aside0 (Below w.heap.size w wc))
  case first =>
   have H := HC9.out
   clear HC9
   by_cases c12 : (t159.size : Int) = (wrap64 ((a0.size : Int) + 4))
   ·rw [if_pos c12] at H
    have c12b0 : ((t159.size : Int) == (wrap64 ((a0.size : Int) + 4))) = true := beq_iff_eq.mpr c12
    have c12b1 : ((t159.size : Int) != (wrap64 ((a0.size : Int) + 4))) = false := bne_eq_false_iff_eq.mpr c12
    clear c12
    (first | rw [c12b0] | (simp only [i64_w, i32_w]; rw [c12b0]) | skip)
    by_cases c13 : t160.toList = a0.toList
    ·rw [if_pos c13] at H
     have c13b0 : (t160.toList == a0.toList) = true := beq_iff_eq.mpr c13
     have c13b1 : (t160.toList != a0.toList) = false := bne_eq_false_iff_eq.mpr c13
     clear c13
     replace H := Option.bind_eq_some_iff.mp H
     obtain ⟨t162, A140, H⟩ := H
     replace H : (boomeranglaw2_CrcBursts.j0 k a1 a2 t159 (t162 != 0)) = some r := H
     have A14 := Aside0.mk A140
     clear A140
     have H' := Aside0.mk H
     clear H
     go_wp2_with (first | (go_at_call 19; (with_reducible refine (boomeranglaw1_Err.calls t161 t162 _ A14.out).mono ?_); rintro e w' ⟨rfl, ⟨nd, rfl⟩⟩))
     go_meet
     case rel => exact ⟨_, ((t162 != 0)), (by first | rfl | (simp; done) | (simp [*]; done)), H', ⟨by first | omega | exact Nat.le_refl _⟩, ⟨by repeat (first | (with_reducible first | exact HB.out | apply below_alloc | apply pw_below_drewN | apply below_drew1) | exact HB.out)⟩⟩
    ·rw [if_neg c13] at H
     have c13b0 : (t160.toList == a0.toList) = false := beq_eq_false_iff_ne.mpr c13
     have c13b1 : (t160.toList != a0.toList) = true := bne_iff_ne.mpr c13
     have H' := Aside0.mk H
     clear H
     go_wp2
     go_meet
     case rel => exact ⟨_, (true), (by first | rfl | (simp; done) | (simp [*]; done)), H', ⟨by first | omega | exact Nat.le_refl _⟩, ⟨by repeat (first | (with_reducible first | exact HB.out | apply below_alloc | apply pw_below_drewN | apply below_drew1) | exact HB.out)⟩⟩
   ·rw [if_neg c12] at H
    have c12b0 : ((t159.size : Int) == (wrap64 ((a0.size : Int) + 4))) = false := beq_eq_false_iff_ne.mpr c12
    have c12b1 : ((t159.size : Int) != (wrap64 ((a0.size : Int) + 4))) = true := bne_iff_ne.mpr c12
    (first | rw [c12b0] | (simp only [i64_w, i32_w]; rw [c12b0]) | skip)
    have H' := Aside0.mk H
    clear H
    go_wp2
    go_meet
    case rel => exact ⟨_, (true), (by first | rfl | (simp; done) | (simp [*]; done)), H', ⟨by first | omega | exact Nat.le_refl _⟩, ⟨by repeat (first | (with_reducible first | exact HB.out | apply below_alloc | apply pw_below_drewN | apply below_drew1) | exact HB.out)⟩⟩
  case rest =>
   clear HC9
   try clear c1
   try clear p2
   try clear c4
   try clear c4b0
   try clear c4b1
   try clear c6
   try clear p6
   try clear c12
   try clear c12b0
   try clear c12b1
   try clear c13
   try clear c13b0
   try clear c13b1
   try clear c14
   obtain ⟨kq, x43_8, rfl, HA, HJ8, HB⟩ := hcut
   cases kq with
   | zero => exact absurd HA.out (by simp [boomeranglaw2_CrcBursts.j0])
   | succ kj8 =>
    have H := HA.out
    clear HA
    simp only [boomeranglaw2_CrcBursts.j0] at H
    by_cases c15 : x43_8 = true
    ·subst c15
     have H1 : (some false) = some r := by rw [if_pos rfl] at H; exact H
     clear H
     have H := H1
     clear H1
     obtain rfl := Option.some.inj H
     go_wp2
     go_ret
     exact ⟨by first | rfl | (simp [errW_none, errW_some] <;> rfl) | (simp [*, errW_none, errW_some] <;> rfl), by repeat (first | (with_reducible first | exact HB.out | apply below_alloc | apply pw_below_drewN | apply below_drew1) | exact HB.out)⟩
    ·replace c15 := Bool.eq_false_iff.mpr c15
     subst c15
     have H1 : (if t159.size ≤ 9223372036854775807 then ((some (bytesOf t159 : List Int)).bind fun y163 => (if (wrap64 ((wrap64 (8 * (y163.length : Int))) - 31)) = 0 then (none) else (boomeranglaw2_CrcBursts.l0 kj8 a2 t159 y163 (Int.tmod (wrap64 (a1)) (wrap64 ((wrap64 (8 * (y163.length : Int))) - 31))) 0))) else (none)) = some r := by rw [if_neg (show ¬ (false = true) by decide)] at H; exact H
     clear H
     have H := H1
     clear H1
     by_cases c16 : t159.size ≤ 9223372036854775807
     ·rw [if_pos c16] at H
      have c16b0 := eq_true c16
      have c16b1 : decide (t159.size ≤ 9223372036854775807) = true := decide_eq_true c16
      try have c16b2 : (9223372036854775807 < t159.size) = False := eq_false (Nat.not_lt.2 c16)
      clear c16
      obtain ⟨y163, hy163⟩ : ∃ y_ : List Int, y_ = (bytesOf t159) := ⟨_, rfl⟩
      replace H : (if (wrap64 ((wrap64 (8 * (y163.length : Int))) - 31)) = 0 then (none) else (boomeranglaw2_CrcBursts.l0 kj8 a2 t159 y163 (Int.tmod (wrap64 (a1)) (wrap64 ((wrap64 (8 * (y163.length : Int))) - 31))) 0)) = some r := by first | (rw [hy163]; with_reducible exact H) | (have H2_ := (Option.bind_some _ _).symm.trans H; rw [hy163]; with_reducible exact H2_) | (have H2_ := (Option.bind_some _ _).symm.trans H; with_reducible exact H2_) | with_reducible exact H | (rw [hy163]; exact H) | exact H
      have Ny163 := Aside0.mk hy163
      clear hy163
      by_cases c17 : (wrap64 ((wrap64 (8 * (y163.length : Int))) - 31)) = 0
      ·rw [if_pos c17] at H
       exact absurd H (by simp)
      ·rw [if_neg c17] at H
       have c17b0 : ((wrap64 ((wrap64 (8 * (y163.length : Int))) - 31)) == 0) = false := beq_eq_false_iff_ne.mpr c17
       have c17b1 : ((wrap64 ((wrap64 (8 * (y163.length : Int))) - 31)) != 0) = true := bne_iff_ne.mpr c17
       have H' := Aside0.mk H
       clear H
       go_wp2_with (first | ((with_reducible refine gate_dst (N := 45) rfl ?_); refine Kd.B_conv _ 5 rfl (N := 45) rfl 9 22 _ rfl t159 rfl Try.underlying9 Try.underlying22 Try.underlying5 (ok := fun _ => True) trivial (of_decide_eq_true (by first | (with_reducible assumption) | assumption)) (Below.refl _ _) (Nat.le_refl _) ?_; intro v164 w18 ho19 hb hg_ hnew_; clear hg_ hnew_; (first | rw [← Ny163.out] at ho19 | (simp only [Int.reduceToNat] at ho19; rw [← Ny163.out] at ho19)); have n0_ := Aside0.mk (Kd.B_lower ho19 (below_size (by repeat (first | (with_reducible first | exact HB.out | apply below_alloc | apply pw_below_drewN | apply below_drew1) | exact HB.out)))); have n1_ := Aside0.mk (below_step (by repeat (first | (with_reducible first | exact HB.out | apply below_alloc | apply pw_below_drewN | apply below_drew1) | exact HB.out)) hb); clear HB; have HO165 := n0_; have HB := n1_; clear n0_ n1_; clear hb ho19; obtain ⟨Ao20, co20, eo20⟩ := Kd.B_slice HO165.out; subst eo20))
       go_loopg [12] kj8 (fun kq v12 w' => ∃ (x10_2 : List Int) (x12_2 : Int), v12 = .int .i64 x12_2 ∧ Aside0 (boomeranglaw2_CrcBursts.l0 kq a2 t159 x10_2 (Int.tmod (wrap64 (a1)) (wrap64 ((wrap64 (8 * (y163.length : Int))) - 31))) x12_2 = some r) ∧ Aside0 (kq ≤ kj8) ∧ Aside0 (Kd.B (Kd.int .u8) 5 w' w.heap.size (fun _ => True) (.slice Ao20 y163.length co20) x10_2) ∧ Aside0 (Below w.heap.size w w'))
       case atStart => exact ⟨(y163), (0), (by first | rfl | (simp; done) | (simp [*]; done)), H', ⟨Nat.le_refl _⟩, ⟨by (with_reducible repeat (first | apply Kd.B_alloc | apply Kd.B_drewN | apply Kd.B_drew)); exact HO165.out⟩, ⟨by repeat (first | (with_reducible first | exact HB.out | apply below_alloc | apply pw_below_drewN | apply below_drew1) | exact HB.out)⟩⟩
       case round =>
        clear H'
        try clear c1
        try clear p2
        try clear c4
        try clear c4b0
        try clear c4b1
        try clear c6
        try clear p6
        try clear c12
        try clear c12b0
        try clear c12b1
        try clear c13
        try clear c13b0
        try clear c13b1
        try clear c14
        try clear c15
        try clear c16
        try clear c16b0
        try clear c16b1
        try clear c16b2
        try clear c17
        try clear c17b0
        try clear c17b1
        try clear p2
        try clear p6
        obtain ⟨x10_2, x12_2, rfl, HA, HK2, HO_10, HB⟩ := hrel
        have hl10_2 := (Kd.B_reads' HO_10.out).1
        rw [hl10_2] at HO_10
        (try simp only [hl10_2])
        cases gk with
        | zero => exact absurd HA.out (by simp [boomeranglaw2_CrcBursts.l0])
        | succ k2 =>
         have H := HA.out
         clear HA
         simp only [boomeranglaw2_CrcBursts.l0] at H
         by_cases c21 : x12_2 < 32
         ·rw [if_pos c21] at H
          have c21b0 : decide (x12_2 < 32) = true := decide_eq_true c21
          clear c21
          obtain ⟨ji22, hji22⟩ : ∃ j_ : Int, (wrap64 (Int.tdiv (wrap64 ((Int.tmod (wrap64 (a1)) (wrap64 ((wrap64 (8 * (y163.length : Int))) - 31))) + x12_2)) 8)) = j_ := ⟨_, rfl⟩
          (try (have hji22x := hji22; rw [hl10_2] at hji22x))
          replace H : (if 0 ≤ (ji22) then (if (ji22) < (x10_2.length : Int) then (if 0 ≤ x12_2 then (if 0 ≤ (Int.tmod (wrap64 ((Int.tmod (wrap64 (a1)) (wrap64 ((wrap64 (8 * (y163.length : Int))) - 31))) + x12_2)) 8) then (boomeranglaw2_CrcBursts.l0 k2 a2 t159 (x10_2.set ((ji22) : Int).toNat (Go.bits .xor .u8 (rd x10_2 (ji22)) (shl .u8 ((Go.bits .and .u32 (shr .u32 a2 x12_2) 1) % 256) (Int.tmod (wrap64 ((Int.tmod (wrap64 (a1)) (wrap64 ((wrap64 (8 * (y163.length : Int))) - 31))) + x12_2)) 8)))) (Int.tmod (wrap64 (a1)) (wrap64 ((wrap64 (8 * (y163.length : Int))) - 31))) (wrap64 (x12_2 + 1))) else (none)) else (none)) else (none)) else (none)) = some r := by first | (rw [hji22] at H; exact H) | (simp only [hji22] at H ⊢; exact H)
          have hji22w : (IntKind.i64.wrap (Int.tdiv (wrap64 ((Int.tmod (wrap64 (a1)) (wrap64 ((wrap64 (8 * (y163.length : Int))) - 31))) + x12_2)) 8)) = ji22 := (i64_w _).trans hji22
          (try (have hji22wx := hji22w; rw [hl10_2] at hji22wx))
          by_cases c23 : 0 ≤ (ji22)
          ·rw [if_pos c23] at H
           have c23b0 : decide (0 ≤ (ji22)) = true := decide_eq_true c23
           clear c23
           by_cases c24 : (ji22) < (x10_2.length : Int)
           ·rw [if_pos c24] at H
            have c24b0 : decide ((ji22) < (x10_2.length : Int)) = true := decide_eq_true c24
            clear c24
            by_cases c25 : 0 ≤ x12_2
            ·rw [if_pos c25] at H
             have c25b0 := eq_true c25
             have c25b1 : decide (0 ≤ x12_2) = true := decide_eq_true c25
             clear c25
             obtain ⟨ji26, hji26⟩ : ∃ j_ : Int, (shr .u32 a2 x12_2) = j_ := ⟨_, rfl⟩
             replace H : (if 0 ≤ (Int.tmod (wrap64 ((Int.tmod (wrap64 (a1)) (wrap64 ((wrap64 (8 * (y163.length : Int))) - 31))) + x12_2)) 8) then (boomeranglaw2_CrcBursts.l0 k2 a2 t159 (x10_2.set ((ji22) : Int).toNat (Go.bits .xor .u8 (rd x10_2 (ji22)) (shl .u8 ((Go.bits .and .u32 (ji26) 1) % 256) (Int.tmod (wrap64 ((Int.tmod (wrap64 (a1)) (wrap64 ((wrap64 (8 * (y163.length : Int))) - 31))) + x12_2)) 8)))) (Int.tmod (wrap64 (a1)) (wrap64 ((wrap64 (8 * (y163.length : Int))) - 31))) (wrap64 (x12_2 + 1))) else (none)) = some r := by first | (rw [hji26] at H; exact H) | (simp only [hji26] at H ⊢; exact H)
             have hji26_ : (a2 / 2 ^ min x12_2.toNat 32) = ji26 := hji26
             have hji26z : x12_2 ≤ 32 → (a2 / 2 ^ x12_2.toNat) = ji26 := shr_small hji26
             obtain ⟨ji27, hji27⟩ : ∃ j_ : Int, (Int.tmod (wrap64 ((Int.tmod (wrap64 (a1)) (wrap64 ((wrap64 (8 * (y163.length : Int))) - 31))) + x12_2)) 8) = j_ := ⟨_, rfl⟩
             (try (have hji27x := hji27; rw [hl10_2] at hji27x))
             replace H : (if 0 ≤ (ji27) then (boomeranglaw2_CrcBursts.l0 k2 a2 t159 (x10_2.set ((ji22) : Int).toNat (Go.bits .xor .u8 (rd x10_2 (ji22)) (shl .u8 ((Go.bits .and .u32 (ji26) 1) % 256) (ji27)))) (Int.tmod (wrap64 (a1)) (wrap64 ((wrap64 (8 * (y163.length : Int))) - 31))) (wrap64 (x12_2 + 1))) else (none)) = some r := by first | (rw [hji27] at H; exact H) | (simp only [hji27] at H ⊢; exact H)
             by_cases c28 : 0 ≤ (ji27)
             ·rw [if_pos c28] at H
              have c28b0 := eq_true c28
              have c28b1 : decide (0 ≤ (ji27)) = true := decide_eq_true c28
              clear c28
              obtain ⟨ji29, hji29⟩ : ∃ j_ : Int, (shl .u8 ((Go.bits .and .u32 (ji26) 1) % 256) (ji27)) = j_ := ⟨_, rfl⟩
              replace H : (boomeranglaw2_CrcBursts.l0 k2 a2 t159 (x10_2.set ((ji22) : Int).toNat (Go.bits .xor .u8 (rd x10_2 (ji22)) (ji29))) (Int.tmod (wrap64 (a1)) (wrap64 ((wrap64 (8 * (y163.length : Int))) - 31))) (wrap64 (x12_2 + 1))) = some r := by first | (rw [hji29] at H; exact H) | (simp only [hji29] at H ⊢; exact H)
              have hji29_ : (IntKind.u8.wrap (((Go.bits .and .u32 (ji26) 1) % 256) * 2 ^ min (ji27).toNat 8)) = ji29 := hji29
              have hji29z : (ji27) ≤ 8 → (IntKind.u8.wrap (((Go.bits .and .u32 (ji26) 1) % 256) * 2 ^ (ji27).toNat)) = ji29 := shl_small hji29
              obtain ⟨y167, hy167⟩ : ∃ y_ : List Int, y_ = (x10_2.set ((ji22) : Int).toNat (Go.bits .xor .u8 (rd x10_2 (ji22)) (ji29))) := ⟨_, rfl⟩
              replace H : (boomeranglaw2_CrcBursts.l0 k2 a2 t159 y167 (Int.tmod (wrap64 (a1)) (wrap64 ((wrap64 (8 * (y163.length : Int))) - 31))) (wrap64 (x12_2 + 1))) = some r := by first | (rw [hy167]; with_reducible exact H) | (have H2_ := (Option.bind_some _ _).symm.trans H; rw [hy167]; with_reducible exact H2_) | (have H2_ := (Option.bind_some _ _).symm.trans H; with_reducible exact H2_) | with_reducible exact H | (rw [hy167]; exact H) | exact H
              have Ny167 := Aside0.mk hy167
              clear hy167
              have H' := Aside0.mk H
              clear H
              try go_wp2
              have n0_ := Aside0.mk (Kd.B_drew HO_10.out)
              have n1_ := Aside0.mk (below_drew1 HB.out)
              clear HO_10
              clear HB
              have HO_10 := n0_
              have HB := n1_
              clear n0_ n1_
              have p166 : 0 ≤ ((ji22) : Int) := of_decide_eq_true (by first | (with_reducible assumption) | assumption)
              have q166 : (ji22) < (x10_2.length : Int) := of_decide_eq_true (by first | (with_reducible assumption) | assumption)
              obtain ⟨ad166, e166, hx166_0⟩ := Kd.at_int (Kd.B_reads' HO_10.out).2.2 (ji22) p166 q166
              cases e166
              replace p166 := eq_true p166
              replace q166 := eq_true q166
              have p30 : 0 ≤ ((ji22) : Int) := of_decide_eq_true (by first | (with_reducible assumption) | assumption)
              have q30 : ((ji22) : Int) < ((x10_2.length : Int) : Int) := of_decide_eq_true (by first | (with_reducible assumption) | assumption)
              obtain ⟨go30, co30, eo30, gb30, gl30, cl30, HG30⟩ := Kd.B_form HO_10.out (by omega)
              (first | cases eo30 | (injection eo30 with ea_ en_ ec_; (first | subst ea_ | (injection ea_ with ea_; subst ea_)); subst ec_; clear en_))
              have GB30 := Aside0.mk gb30
              have GG30 := Aside0.mk HG30
              clear gb30 gl30 HG30
              (first | simp only [add_plain] at hx166_0 | skip)
              obtain ⟨hx30_0, hf30_0⟩ := Kd.B_celln 0 HO_10.out ((ji22) : Int) p30 q30
              replace p30 := eq_true p30
              replace q30 := eq_true q30
              have HP32 := Kd.B_putn HO_10.out ((ji22) : Int) (Go.bits .xor .u8 (rd x10_2 (ji22)) (ji29))
              rw [← Ny167.out] at HP32
              have HQ32 := Aside0.mk HP32
              clear HP32
              refine start_ (n := 20) (S := fun w' => w'.cell? ⟨go30, ((ji22)).toNat, none⟩ = some (.int .u8 (rd x10_2 (ji22)))) (ds := [19]) #[false, false, false, false, false, false, false, false, false, false, false, false, false, false, false, false, false, false, false, false] (by kernel_rfl) rfl rfl (hx166_0) (fun hHeld => ?_); refine with_tabW boomeranglaw2_CrcBursts.tab12 boomeranglaw2_CrcBursts.bits12 (fun HT_ HW_ => ?_)
              generalize wr.drew = w31 at HO_10 HB GG30 HQ32 hf30_0 hx166_0 hx30_0 hHeld ⊢
              refine pure_ (i := 0) (N := some 57) (v := ?_) (a' := ?_) #[true, false, false, false, false, false, false, false, false, false, false, false, false, false, false, false, false, false, false, false] rfl rfl (any_of HT_.out (by kernel_rfl)) (fun _ _ _ h => h) (Or.inl ⟨by rfl, ?_⟩) ?_ ?_
              rotate_left
              ·intro w'
               go_simp
               with_reducible rfl
              rotate_left
              ·simp only [Act.put, List.setIfInBounds_toArray, List.set_cons_zero, List.set_cons_succ, i64_w, i32_w]
               rfl
              refine pure_ (i := 1) (N := some 58) (v := ?_) (a' := ?_) #[true, true, false, false, false, false, false, false, false, false, false, false, false, false, false, false, false, false, false, false] rfl rfl (any_of HT_.out (by kernel_rfl)) (fun _ _ _ h => h) (Or.inl ⟨by rfl, ?_⟩) ?_ ?_
              rotate_left
              ·intro w'
               go_simp
               with_reducible rfl
              rotate_left
              ·simp only [Act.put, List.setIfInBounds_toArray, List.set_cons_zero, List.set_cons_succ, i64_w, i32_w]
               rfl
              refine pure_ (i := 2) (N := some 59) (v := ?_) (a' := ?_) #[true, true, true, false, false, false, false, false, false, false, false, false, false, false, false, false, false, false, false, false] rfl rfl (any_of HT_.out (by kernel_rfl)) (fun _ _ _ h => h) (Or.inl ⟨by rfl, ?_⟩) ?_ ?_
              rotate_left
              ·intro w'
               go_simp
               with_reducible rfl
              rotate_left
              ·simp only [Act.put, List.setIfInBounds_toArray, List.set_cons_zero, List.set_cons_succ, i64_w, i32_w]
               rfl
              refine pure_ (i := 3) (N := some 60) (v := ?_) (a' := ?_) #[true, true, true, true, false, false, false, false, false, false, false, false, false, false, false, false, false, false, false, false] rfl rfl (any_of HT_.out (by kernel_rfl)) (fun _ _ _ h => h) (Or.inl ⟨by rfl, ?_⟩) ?_ ?_
              rotate_left
              ·intro w'
               go_simp
               with_reducible rfl
              rotate_left
              ·simp only [Act.put, List.setIfInBounds_toArray, List.set_cons_zero, List.set_cons_succ, i64_w, i32_w]
               rfl
              refine pure_ (i := 4) (N := some 61) (v := ?_) (a' := ?_) #[true, true, true, true, true, false, false, false, false, false, false, false, false, false, false, false, false, false, false, false] rfl rfl (any_of HT_.out (by kernel_rfl)) (fun _ _ _ h => h) (Or.inl ⟨by rfl, ?_⟩) ?_ ?_
              rotate_left
              ·intro w'
               go_simp
               with_reducible rfl
              rotate_left
              ·simp only [Act.put, List.setIfInBounds_toArray, List.set_cons_zero, List.set_cons_succ, i64_w, i32_w]
               rfl
              refine pure_ (i := 5) (N := some 62) (v := ?_) (a' := ?_) #[true, true, true, true, true, true, false, false, false, false, false, false, false, false, false, false, false, false, false, false] rfl rfl (any_of HT_.out (by kernel_rfl)) (fun _ _ _ h => h) (Or.inl ⟨by rfl, ?_⟩) ?_ ?_
              rotate_left
              ·intro w'
               go_simp
               with_reducible rfl
              rotate_left
              ·simp only [Act.put, List.setIfInBounds_toArray, List.set_cons_zero, List.set_cons_succ, i64_w, i32_w]
               rfl
              refine pure_ (i := 7) (N := some 64) (v := ?_) (a' := ?_) #[true, true, true, true, true, true, false, true, false, false, false, false, false, false, false, false, false, false, false, false] rfl rfl (any_of HT_.out (by kernel_rfl)) (fun _ _ _ h => h) (Or.inl ⟨by rfl, ?_⟩) ?_ ?_
              rotate_left
              ·intro w'
               go_simp
               with_reducible rfl
              rotate_left
              ·simp only [Act.put, List.setIfInBounds_toArray, List.set_cons_zero, List.set_cons_succ, i64_w, i32_w]
               rfl
              refine pure_ (i := 8) (N := some 65) (v := ?_) (a' := ?_) #[true, true, true, true, true, true, false, true, true, false, false, false, false, false, false, false, false, false, false, false] rfl rfl (any_of HT_.out (by kernel_rfl)) (fun _ _ _ h => h) (Or.inl ⟨by rfl, ?_⟩) ?_ ?_
              rotate_left
              ·intro w'
               go_simp
               with_reducible rfl
              rotate_left
              ·simp only [Act.put, List.setIfInBounds_toArray, List.set_cons_zero, List.set_cons_succ, i64_w, i32_w]
               rfl
              refine pure_ (i := 9) (N := some 66) (v := ?_) (a' := ?_) #[true, true, true, true, true, true, false, true, true, true, false, false, false, false, false, false, false, false, false, false] rfl rfl (any_of HT_.out (by kernel_rfl)) (fun _ _ _ h => h) (Or.inl ⟨by rfl, ?_⟩) ?_ ?_
              rotate_left
              ·intro w'
               go_simp
               with_reducible rfl
              rotate_left
              ·simp only [Act.put, List.setIfInBounds_toArray, List.set_cons_zero, List.set_cons_succ, i64_w, i32_w]
               rfl
              refine pure_ (i := 10) (N := some 67) (v := ?_) (a' := ?_) #[true, true, true, true, true, true, false, true, true, true, true, false, false, false, false, false, false, false, false, false] rfl rfl (any_of HT_.out (by kernel_rfl)) (fun _ _ _ h => h) (Or.inl ⟨by rfl, ?_⟩) ?_ ?_
              rotate_left
              ·intro w'
               go_simp
               with_reducible rfl
              rotate_left
              ·simp only [Act.put, List.setIfInBounds_toArray, List.set_cons_zero, List.set_cons_succ, i64_w, i32_w]
               rfl
              refine pure_ (i := 11) (N := some 68) (v := ?_) (a' := ?_) #[true, true, true, true, true, true, false, true, true, true, true, true, false, false, false, false, false, false, false, false] rfl rfl (any_of HT_.out (by kernel_rfl)) (fun _ _ _ h => h) (Or.inl ⟨by rfl, ?_⟩) ?_ ?_
              rotate_left
              ·intro w'
               go_simp
               with_reducible rfl
              rotate_left
              ·simp only [Act.put, List.setIfInBounds_toArray, List.set_cons_zero, List.set_cons_succ, i64_w, i32_w]
               rfl
              refine pure_ (i := 12) (N := some 69) (v := ?_) (a' := ?_) #[true, true, true, true, true, true, false, true, true, true, true, true, true, false, false, false, false, false, false, false] rfl rfl (any_of HT_.out (by kernel_rfl)) (fun _ _ _ h => h) (Or.inl ⟨by rfl, ?_⟩) ?_ ?_
              rotate_left
              ·intro w'
               go_simp
               with_reducible rfl
              rotate_left
              ·simp only [Act.put, List.setIfInBounds_toArray, List.set_cons_zero, List.set_cons_succ, i64_w, i32_w]
               rfl
              refine pure_ (i := 13) (N := some 70) (v := ?_) (a' := ?_) #[true, true, true, true, true, true, false, true, true, true, true, true, true, true, false, false, false, false, false, false] rfl rfl (any_of HT_.out (by kernel_rfl)) (fun _ _ _ h => h) (Or.inl ⟨by rfl, ?_⟩) ?_ ?_
              rotate_left
              ·intro w'
               go_simp
               with_reducible rfl
              rotate_left
              ·simp only [Act.put, List.setIfInBounds_toArray, List.set_cons_zero, List.set_cons_succ, i64_w, i32_w]
               rfl
              refine pure_ (i := 14) (N := some 71) (v := ?_) (a' := ?_) #[true, true, true, true, true, true, false, true, true, true, true, true, true, true, true, false, false, false, false, false] rfl rfl (any_of HT_.out (by kernel_rfl)) (fun _ _ _ h => h) (Or.inl ⟨by rfl, ?_⟩) ?_ ?_
              rotate_left
              ·intro w'
               go_simp
               with_reducible rfl
              rotate_left
              ·simp only [Act.put, List.setIfInBounds_toArray, List.set_cons_zero, List.set_cons_succ, i64_w, i32_w]
               rfl
              refine pure_ (i := 15) (N := some 72) (v := ?_) (a' := ?_) #[true, true, true, true, true, true, false, true, true, true, true, true, true, true, true, true, false, false, false, false] rfl rfl (any_of HT_.out (by kernel_rfl)) (fun _ _ _ h => h) (Or.inl ⟨by rfl, ?_⟩) ?_ ?_
              rotate_left
              ·intro w'
               go_simp
               with_reducible rfl
              rotate_left
              ·simp only [Act.put, List.setIfInBounds_toArray, List.set_cons_zero, List.set_cons_succ, i64_w, i32_w]
               rfl
              refine pure_ (i := 16) (N := some 73) (v := ?_) (a' := ?_) #[true, true, true, true, true, true, false, true, true, true, true, true, true, true, true, true, true, false, false, false] rfl rfl (any_of HT_.out (by kernel_rfl)) (fun _ _ _ h => h) (Or.inl ⟨by rfl, ?_⟩) ?_ ?_
              rotate_left
              ·intro w'
               go_simp
               with_reducible rfl
              rotate_left
              ·simp only [Act.put, List.setIfInBounds_toArray, List.set_cons_zero, List.set_cons_succ, i64_w, i32_w]
               rfl
              refine take_ (i := 6) (N := some 63) (v := ?_) (a' := ?_) #[true, true, true, true, true, true, true, true, true, true, true, true, true, true, true, true, true, false, false, false] rfl rfl (take_ofW HT_.out HW_.out (by kernel_rfl)) (fun _ _ _ h => h) (Or.inl ⟨by rfl, ?_⟩) hHeld ?_ ?_
              rotate_left
              ·intro w' s0
               go_simp
               with_reducible rfl
              rotate_left
              ·simp only [Act.put, List.setIfInBounds_toArray, List.set_cons_zero, List.set_cons_succ, i64_w, i32_w]
               rfl
              refine pure_ (i := 17) (N := some 74) (v := ?_) (a' := ?_) #[true, true, true, true, true, true, true, true, true, true, true, true, true, true, true, true, true, true, false, false] rfl rfl (any_of HT_.out (by kernel_rfl)) (fun _ _ _ h => h) (Or.inl ⟨by rfl, ?_⟩) ?_ ?_
              rotate_left
              ·intro w'
               go_simp
               with_reducible rfl
              rotate_left
              ·simp only [Act.put, List.setIfInBounds_toArray, List.set_cons_zero, List.set_cons_succ, i64_w, i32_w]
               rfl
              refine pure_ (i := 18) (N := some 75) (v := ?_) (a' := ?_) #[true, true, true, true, true, true, true, true, true, true, true, true, true, true, true, true, true, true, true, false] rfl rfl (any_of HT_.out (by kernel_rfl)) (fun _ _ _ h => h) (Or.inl ⟨by rfl, ?_⟩) ?_ ?_
              rotate_left
              ·intro w'
               go_simp
               with_reducible rfl
              rotate_left
              ·simp only [Act.put, List.setIfInBounds_toArray, List.set_cons_zero, List.set_cons_succ, i64_w, i32_w]
               rfl
              refine last_ (i := 19) (N := none) #[true, true, true, true, true, true, true, true, true, true, true, true, true, true, true, true, true, true, true, true] rfl rfl (one_of HT_.out (by kernel_rfl)) (by decide) (fun K hK => ?_)
              refine skip_ (w1 := ?_) (by rfl) rfl ?_ ?_
              rotate_left
              ·go_simp
               rfl
              refine hK.out _ _ ?_
              clear hK K
              refine done_ (done_of HT_.out (by kernel_rfl)) ?_
              try go_wp2
              (try simp only [← hl10_2])
              go_roundg k2
              case measure => have := HJ8.out; have := HK2.out; omega
              case rel => exact ⟨(y167), (wrap64 (x12_2 + 1)), (by first | rfl | (simp; done) | (simp [*]; done)), H', ⟨by have := HJ8.out; have := HK2.out; omega⟩, ⟨by (try simp only [hl10_2]); (with_reducible repeat (first | apply Kd.B_alloc | apply Kd.B_drewN | apply Kd.B_drew)); first | exact HQ32.out | (simp only [hji26_, hji29_]; exact HQ32.out) | (simp only [IntKind.wrap_u8] at hji26_ hji29_; simp only [hji26_, hji29_]; exact HQ32.out)⟩, ⟨by repeat (first | (with_reducible first | exact HB.out | apply below_alloc | apply pw_below_drewN | apply below_drew1 | refine below_set ?_ GB30.out) | exact HB.out)⟩⟩
             ·rw [if_neg c28] at H
              exact absurd H (by simp)
            ·rw [if_neg c25] at H
             exact absurd H (by simp)
           ·rw [if_neg c24] at H
            exact absurd H (by simp)
          ·rw [if_neg c23] at H
           exact absurd H (by simp)
         ·rw [if_neg c21] at H
          have c21b0 : decide (x12_2 < 32) = false := decide_eq_false c21
          clear c21
          replace H := Option.bind_eq_some_iff.mp H
          obtain ⟨⟨t168, t169⟩, A330, H⟩ := H
          replace H : (if 3 ≤ (t159.size : Int) then ((crc_Get.f (t159.extract 0 3)).bind fun bt170 => ((boomeranglaw1_Err.f t169).bind fun t172 => (if t172 = 5 then (if t168.toList = ([] : List UInt8) then ((boomeranglaw1_Err.f bt170.2).bind fun t173 => (if t173 = 3 then ((boomeranglaw2_awake.f).bind fun t174 => (some t174)) else (some false))) else (if a2 = 0 then ((boomeranglaw1_Err.f t169).bind fun t175 => (if t175 = 0 then ((boomeranglaw1_Err.f bt170.2).bind fun t176 => (if t176 = 3 then ((boomeranglaw2_awake.f).bind fun t177 => (some t177)) else (some false))) else (some false))) else (some false))) else (if a2 = 0 then ((boomeranglaw1_Err.f t169).bind fun t178 => (if t178 = 0 then ((boomeranglaw1_Err.f bt170.2).bind fun t179 => (if t179 = 3 then ((boomeranglaw2_awake.f).bind fun t180 => (some t180)) else (some false))) else (some false))) else (some false))))) else (none)) = some r := H
          have A33 := Aside0.mk A330
          clear A330
          by_cases c34 : 3 ≤ (t159.size : Int)
          ·rw [if_pos c34] at H
           have c34b0 := eq_true c34
           have c34b1 : decide (3 ≤ (t159.size : Int)) = true := decide_eq_true c34
           clear c34
           replace H := Option.bind_eq_some_iff.mp H
           obtain ⟨⟨t170, t171⟩, A350, H⟩ := H
           replace H : ((boomeranglaw1_Err.f t169).bind fun t172 => (if t172 = 5 then (if t168.toList = ([] : List UInt8) then ((boomeranglaw1_Err.f t171).bind fun t173 => (if t173 = 3 then ((boomeranglaw2_awake.f).bind fun t174 => (some t174)) else (some false))) else (if a2 = 0 then ((boomeranglaw1_Err.f t169).bind fun t175 => (if t175 = 0 then ((boomeranglaw1_Err.f t171).bind fun t176 => (if t176 = 3 then ((boomeranglaw2_awake.f).bind fun t177 => (some t177)) else (some false))) else (some false))) else (some false))) else (if a2 = 0 then ((boomeranglaw1_Err.f t169).bind fun t178 => (if t178 = 0 then ((boomeranglaw1_Err.f t171).bind fun t179 => (if t179 = 3 then ((boomeranglaw2_awake.f).bind fun t180 => (some t180)) else (some false))) else (some false))) else (some false)))) = some r := H
           have A35 := Aside0.mk A350
           clear A350
           replace H := Option.bind_eq_some_iff.mp H
           obtain ⟨t172, A360, H⟩ := H
           replace H : (if t172 = 5 then (if t168.toList = ([] : List UInt8) then ((boomeranglaw1_Err.f t171).bind fun t173 => (if t173 = 3 then ((boomeranglaw2_awake.f).bind fun t174 => (some t174)) else (some false))) else (if a2 = 0 then ((boomeranglaw1_Err.f t169).bind fun t175 => (if t175 = 0 then ((boomeranglaw1_Err.f t171).bind fun t176 => (if t176 = 3 then ((boomeranglaw2_awake.f).bind fun t177 => (some t177)) else (some false))) else (some false))) else (some false))) else (if a2 = 0 then ((boomeranglaw1_Err.f t169).bind fun t178 => (if t178 = 0 then ((boomeranglaw1_Err.f t171).bind fun t179 => (if t179 = 3 then ((boomeranglaw2_awake.f).bind fun t180 => (some t180)) else (some false))) else (some false))) else (some false))) = some r := H
           have A36 := Aside0.mk A360
           clear A360
           by_cases c37 : t172 = 5
           ·rw [if_pos c37] at H
            have c37b0 : (t172 == 5) = true := beq_iff_eq.mpr c37
            (try (have wc37b0_t159 : (t159 == 5) = true := by rw [Option.some.inj (A7.out.symm.trans A36.out)]; exact c37b0))
            (try (have vc37b0_t159 : (t159 != 5) = false := by have h_ := wc37b0_t159; simpa using h_))
            have c37b1 : (t172 != 5) = false := bne_eq_false_iff_eq.mpr c37
            clear c37
            by_cases c38 : t168.toList = ([] : List UInt8)
            ·rw [if_pos c38] at H
             have c38b0 : (t168.toList == ([] : List UInt8)) = true := beq_iff_eq.mpr c38
             have c38b1 : (t168.toList != ([] : List UInt8)) = false := bne_eq_false_iff_eq.mpr c38
             clear c38
             replace H := Option.bind_eq_some_iff.mp H
             obtain ⟨t173, A390, H⟩ := H
             (try (have zc37b0_t173 : (t173 == 5) = true := by rw [← Option.some.inj (A36.out.symm.trans A390)]; exact c37b0))
             (try (have yc37b0_t173 : (t173 != 5) = false := by have h_ := zc37b0_t173; simpa using h_))
             replace H : (if t173 = 3 then ((boomeranglaw2_awake.f).bind fun t174 => (some t174)) else (some false)) = some r := H
             have A39 := Aside0.mk A390
             clear A390
             by_cases c40 : t173 = 3
             ·rw [if_pos c40] at H
              have c40b0 : (t173 == 3) = true := beq_iff_eq.mpr c40
              (try (have wc40b0_t159 : (t159 == 3) = true := by rw [Option.some.inj (A7.out.symm.trans A39.out)]; exact c40b0))
              (try (have vc40b0_t159 : (t159 != 3) = false := by have h_ := wc40b0_t159; simpa using h_))
              (try (have wc40b0_t172 : (t172 == 3) = true := by rw [Option.some.inj (A36.out.symm.trans A39.out)]; exact c40b0))
              (try (have vc40b0_t172 : (t172 != 3) = false := by have h_ := wc40b0_t172; simpa using h_))
              have c40b1 : (t173 != 3) = false := bne_eq_false_iff_eq.mpr c40
              clear c40
              replace H := Option.bind_eq_some_iff.mp H
              obtain ⟨t174, A410, H⟩ := H
              (try (have zc37b0_t174 : (t174 == 5) = true := by rw [← Option.some.inj (A36.out.symm.trans A410)]; exact c37b0))
              (try (have yc37b0_t174 : (t174 != 5) = false := by have h_ := zc37b0_t174; simpa using h_))
              (try (have zc40b0_t174 : (t174 == 3) = true := by rw [← Option.some.inj (A39.out.symm.trans A410)]; exact c40b0))
              (try (have yc40b0_t174 : (t174 != 3) = false := by have h_ := zc40b0_t174; simpa using h_))
              replace H : (some t174) = some r := H
              have A41 := Aside0.mk A410
              clear A410
              obtain rfl := Option.some.inj H
              have hcv42 := Kd.B_string (P := Try.prog) Try.underlying22 Try.underlying5 Try.underlying9 HO_10.out
              go_wp2_with (first | ((with_reducible refine gate_callee (f := 15) rfl ?_); refine goesL_ (some 79) rfl rfl Try.func15 (by kernel_rfl) rfl #[.string (strOfNums x10_2)] rfl (by (try simp only [List.map_toArray, List.map_cons, List.map_nil]); first | done | rfl | (simp only [List.length_drop, List.length_take]; rfl)) ?_; (with_reducible refine (crc_Get.calls (strOfNums x10_2) t168 t169 _ A33.out).mono ?_); rintro e w43 ⟨rfl, hb⟩; refine ⟨_, rfl, ?_⟩; have n0_ := Aside0.mk (Kd.B_below (by (with_reducible repeat (first | apply Kd.B_alloc | apply Kd.B_drewN | apply Kd.B_drew)); exact HO_10.out) hb); have n1_ := Aside0.mk (below_step (by repeat (first | (with_reducible first | exact HB.out | apply below_alloc | apply pw_below_drewN | apply below_drew1) | exact HB.out)) hb); clear HO_10; clear HB; have HO_10 := n0_; have HB := n1_; clear n0_ n1_; (try clear hb); (try clear hb2); (try clear hk); (try clear hi)) | ((with_reducible refine gate_callee (f := 15) rfl ?_); refine goesL_ (some 85) rfl rfl Try.func15 (by kernel_rfl) rfl #[.string (t159.extract 0 3)] rfl (by (try simp only [List.map_toArray, List.map_cons, List.map_nil]); first | done | rfl | (simp only [List.length_drop, List.length_take]; rfl)) ?_; (with_reducible refine (crc_Get.calls (t159.extract 0 3) t170 t171 _ A35.out).mono ?_); rintro e w44 ⟨rfl, hb⟩; refine ⟨_, rfl, ?_⟩; have n0_ := Aside0.mk (Kd.B_below (by (with_reducible repeat (first | apply Kd.B_alloc | apply Kd.B_drewN | apply Kd.B_drew)); exact HO_10.out) hb); have n1_ := Aside0.mk (below_step (by repeat (first | (with_reducible first | exact HB.out | apply below_alloc | apply pw_below_drewN | apply below_drew1) | exact HB.out)) hb); clear HO_10; clear HB; have HO_10 := n0_; have HB := n1_; clear n0_ n1_; (try clear hb); (try clear hb2); (try clear hk); (try clear hi)) | ((with_reducible refine gate_callee (f := 19) rfl ?_); refine goesL_ (some 89) rfl rfl Try.func19 (by kernel_rfl) rfl #[.int .i64 t169] rfl (by (try simp only [List.map_toArray, List.map_cons, List.map_nil]); first | done | rfl | (simp only [List.length_drop, List.length_take]; rfl)) ?_; (with_reducible refine (boomeranglaw1_Err.calls t169 t172 _ A36.out).mono ?_); rintro e w' ⟨rfl, ⟨nd, rfl⟩⟩; refine ⟨_, rfl, ?_⟩) | (go_at_call 19; (with_reducible refine (boomeranglaw1_Err.calls t171 t173 _ A39.out).mono ?_); rintro e w' ⟨rfl, ⟨nd, rfl⟩⟩) | (go_at_call 13; (with_reducible refine (boomeranglaw2_awake.calls  t174 _ A41.out).mono ?_); rintro e w45 ⟨rfl, hb⟩; have n0_ := Aside0.mk (Kd.B_below (by (with_reducible repeat (first | apply Kd.B_alloc | apply Kd.B_drewN | apply Kd.B_drew)); exact HO_10.out) hb); have n1_ := Aside0.mk (below_step (by repeat (first | (with_reducible first | exact HB.out | apply below_alloc | apply pw_below_drewN | apply below_drew1) | exact HB.out)) hb); clear HO_10; clear HB; have HO_10 := n0_; have HB := n1_; clear n0_ n1_; (try clear hb); (try clear hb2); (try clear hk); (try clear hi)))
              go_ret
              exact ⟨by first | rfl | (simp [errW_none, errW_some] <;> rfl) | (simp [*, errW_none, errW_some] <;> rfl), by repeat (first | (with_reducible first | exact HB.out | apply below_alloc | apply pw_below_drewN | apply below_drew1) | exact HB.out)⟩
             ·rw [if_neg c40] at H
              exact absurd (H.trans (congrArg some HRT.out)) (by simp)
            ·rw [if_neg c38] at H
             have c38b0 : (t168.toList == ([] : List UInt8)) = false := beq_eq_false_iff_ne.mpr c38
             have c38b1 : (t168.toList != ([] : List UInt8)) = true := bne_iff_ne.mpr c38
             by_cases c49 : a2 = 0
             ·rw [if_pos c49] at H
              have c49b0 : (a2 == 0) = true := beq_iff_eq.mpr c49
              have c49b1 : (a2 != 0) = false := bne_eq_false_iff_eq.mpr c49
              clear c49
              replace H := Option.bind_eq_some_iff.mp H
              obtain ⟨t175, A500, H⟩ := H
              (try (have zc37b0_t175 : (t175 == 5) = true := by rw [← Option.some.inj (A36.out.symm.trans A500)]; exact c37b0))
              (try (have yc37b0_t175 : (t175 != 5) = false := by have h_ := zc37b0_t175; simpa using h_))
              replace H : (if t175 = 0 then ((boomeranglaw1_Err.f t171).bind fun t176 => (if t176 = 3 then ((boomeranglaw2_awake.f).bind fun t177 => (some t177)) else (some false))) else (some false)) = some r := H
              have A50 := Aside0.mk A500
              clear A500
              by_cases c51 : t175 = 0
              ·rw [if_pos c51] at H
               have c51b0 : (t175 == 0) = true := beq_iff_eq.mpr c51
               (try (have wc51b0_t159 : (t159 == 0) = true := by rw [Option.some.inj (A7.out.symm.trans A50.out)]; exact c51b0))
               (try (have vc51b0_t159 : (t159 != 0) = false := by have h_ := wc51b0_t159; simpa using h_))
               (try (have wc51b0_t172 : (t172 == 0) = true := by rw [Option.some.inj (A36.out.symm.trans A50.out)]; exact c51b0))
               (try (have vc51b0_t172 : (t172 != 0) = false := by have h_ := wc51b0_t172; simpa using h_))
               have c51b1 : (t175 != 0) = false := bne_eq_false_iff_eq.mpr c51
               clear c51
               replace H := Option.bind_eq_some_iff.mp H
               obtain ⟨t176, A520, H⟩ := H
               (try (have zc37b0_t176 : (t176 == 5) = true := by rw [← Option.some.inj (A36.out.symm.trans A520)]; exact c37b0))
               (try (have yc37b0_t176 : (t176 != 5) = false := by have h_ := zc37b0_t176; simpa using h_))
               (try (have zc51b0_t176 : (t176 == 0) = true := by rw [← Option.some.inj (A50.out.symm.trans A520)]; exact c51b0))
               (try (have yc51b0_t176 : (t176 != 0) = false := by have h_ := zc51b0_t176; simpa using h_))
               replace H : (if t176 = 3 then ((boomeranglaw2_awake.f).bind fun t177 => (some t177)) else (some false)) = some r := H
               have A52 := Aside0.mk A520
               clear A520
               by_cases c53 : t176 = 3
               ·rw [if_pos c53] at H
                have c53b0 : (t176 == 3) = true := beq_iff_eq.mpr c53
                (try (have wc53b0_t159 : (t159 == 3) = true := by rw [Option.some.inj (A7.out.symm.trans A52.out)]; exact c53b0))
                (try (have vc53b0_t159 : (t159 != 3) = false := by have h_ := wc53b0_t159; simpa using h_))
                (try (have wc53b0_t172 : (t172 == 3) = true := by rw [Option.some.inj (A36.out.symm.trans A52.out)]; exact c53b0))
                (try (have vc53b0_t172 : (t172 != 3) = false := by have h_ := wc53b0_t172; simpa using h_))
                (try (have wc53b0_t175 : (t175 == 3) = true := by rw [Option.some.inj (A50.out.symm.trans A52.out)]; exact c53b0))
                (try (have vc53b0_t175 : (t175 != 3) = false := by have h_ := wc53b0_t175; simpa using h_))
                have c53b1 : (t176 != 3) = false := bne_eq_false_iff_eq.mpr c53
                clear c53
                replace H := Option.bind_eq_some_iff.mp H
                obtain ⟨t177, A540, H⟩ := H
                (try (have zc37b0_t177 : (t177 == 5) = true := by rw [← Option.some.inj (A36.out.symm.trans A540)]; exact c37b0))
                (try (have yc37b0_t177 : (t177 != 5) = false := by have h_ := zc37b0_t177; simpa using h_))
                (try (have zc51b0_t177 : (t177 == 0) = true := by rw [← Option.some.inj (A50.out.symm.trans A540)]; exact c51b0))
                (try (have yc51b0_t177 : (t177 != 0) = false := by have h_ := zc51b0_t177; simpa using h_))
                (try (have zc53b0_t177 : (t177 == 3) = true := by rw [← Option.some.inj (A52.out.symm.trans A540)]; exact c53b0))
                (try (have yc53b0_t177 : (t177 != 3) = false := by have h_ := zc53b0_t177; simpa using h_))
                replace H : (some t177) = some r := H
                have A54 := Aside0.mk A540
                clear A540
                obtain rfl := Option.some.inj H
                have hcv55 := Kd.B_string (P := Try.prog) Try.underlying22 Try.underlying5 Try.underlying9 HO_10.out
                go_wp2_with (first | ((with_reducible refine gate_callee (f := 15) rfl ?_); refine goesL_ (some 79) rfl rfl Try.func15 (by kernel_rfl) rfl #[.string (strOfNums x10_2)] rfl (by (try simp only [List.map_toArray, List.map_cons, List.map_nil]); first | done | rfl | (simp only [List.length_drop, List.length_take]; rfl)) ?_; (with_reducible refine (crc_Get.calls (strOfNums x10_2) t168 t169 _ A33.out).mono ?_); rintro e w56 ⟨rfl, hb⟩; refine ⟨_, rfl, ?_⟩; have n0_ := Aside0.mk (Kd.B_below (by (with_reducible repeat (first | apply Kd.B_alloc | apply Kd.B_drewN | apply Kd.B_drew)); exact HO_10.out) hb); have n1_ := Aside0.mk (below_step (by repeat (first | (with_reducible first | exact HB.out | apply below_alloc | apply pw_below_drewN | apply below_drew1) | exact HB.out)) hb); clear HO_10; clear HB; have HO_10 := n0_; have HB := n1_; clear n0_ n1_; (try clear hb); (try clear hb2); (try clear hk); (try clear hi)) | ((with_reducible refine gate_callee (f := 15) rfl ?_); refine goesL_ (some 85) rfl rfl Try.func15 (by kernel_rfl) rfl #[.string (t159.extract 0 3)] rfl (by (try simp only [List.map_toArray, List.map_cons, List.map_nil]); first | done | rfl | (simp only [List.length_drop, List.length_take]; rfl)) ?_; (with_reducible refine (crc_Get.calls (t159.extract 0 3) t170 t171 _ A35.out).mono ?_); rintro e w57 ⟨rfl, hb⟩; refine ⟨_, rfl, ?_⟩; have n0_ := Aside0.mk (Kd.B_below (by (with_reducible repeat (first | apply Kd.B_alloc | apply Kd.B_drewN | apply Kd.B_drew)); exact HO_10.out) hb); have n1_ := Aside0.mk (below_step (by repeat (first | (with_reducible first | exact HB.out | apply below_alloc | apply pw_below_drewN | apply below_drew1) | exact HB.out)) hb); clear HO_10; clear HB; have HO_10 := n0_; have HB := n1_; clear n0_ n1_; (try clear hb); (try clear hb2); (try clear hk); (try clear hi)) | ((with_reducible refine gate_callee (f := 19) rfl ?_); refine goesL_ (some 89) rfl rfl Try.func19 (by kernel_rfl) rfl #[.int .i64 t169] rfl (by (try simp only [List.map_toArray, List.map_cons, List.map_nil]); first | done | rfl | (simp only [List.length_drop, List.length_take]; rfl)) ?_; (with_reducible refine (boomeranglaw1_Err.calls t169 t172 _ A36.out).mono ?_); rintro e w' ⟨rfl, ⟨nd, rfl⟩⟩; refine ⟨_, rfl, ?_⟩) | (go_at_call 19; (with_reducible refine (boomeranglaw1_Err.calls t169 t175 _ A50.out).mono ?_); rintro e w' ⟨rfl, ⟨nd, rfl⟩⟩) | (go_at_call 19; (with_reducible refine (boomeranglaw1_Err.calls t171 t176 _ A52.out).mono ?_); rintro e w' ⟨rfl, ⟨nd, rfl⟩⟩) | (go_at_call 13; (with_reducible refine (boomeranglaw2_awake.calls  t177 _ A54.out).mono ?_); rintro e w58 ⟨rfl, hb⟩; have n0_ := Aside0.mk (Kd.B_below (by (with_reducible repeat (first | apply Kd.B_alloc | apply Kd.B_drewN | apply Kd.B_drew)); exact HO_10.out) hb); have n1_ := Aside0.mk (below_step (by repeat (first | (with_reducible first | exact HB.out | apply below_alloc | apply pw_below_drewN | apply below_drew1) | exact HB.out)) hb); clear HO_10; clear HB; have HO_10 := n0_; have HB := n1_; clear n0_ n1_; (try clear hb); (try clear hb2); (try clear hk); (try clear hi)))
                go_ret
                exact ⟨by first | rfl | (simp [errW_none, errW_some] <;> rfl) | (simp [*, errW_none, errW_some] <;> rfl), by repeat (first | (with_reducible first | exact HB.out | apply below_alloc | apply pw_below_drewN | apply below_drew1) | exact HB.out)⟩
               ·rw [if_neg c53] at H
                exact absurd (H.trans (congrArg some HRT.out)) (by simp)
              ·rw [if_neg c51] at H
               exact absurd (H.trans (congrArg some HRT.out)) (by simp)
             ·rw [if_neg c49] at H
              exact absurd (H.trans (congrArg some HRT.out)) (by simp)
           ·rw [if_neg c37] at H
            have c37b0 : (t172 == 5) = false := beq_eq_false_iff_ne.mpr c37
            (try (have wc37b0_t159 : (t159 == 5) = false := by rw [Option.some.inj (A7.out.symm.trans A36.out)]; exact c37b0))
            (try (have vc37b0_t159 : (t159 != 5) = true := by have h_ := wc37b0_t159; simpa using h_))
            have c37b1 : (t172 != 5) = true := bne_iff_ne.mpr c37
            by_cases c68 : a2 = 0
            ·rw [if_pos c68] at H
             have c68b0 : (a2 == 0) = true := beq_iff_eq.mpr c68
             have c68b1 : (a2 != 0) = false := bne_eq_false_iff_eq.mpr c68
             clear c68
             replace H := Option.bind_eq_some_iff.mp H
             obtain ⟨t178, A690, H⟩ := H
             (try (have zc37b0_t178 : (t178 == 5) = false := by rw [← Option.some.inj (A36.out.symm.trans A690)]; exact c37b0))
             (try (have yc37b0_t178 : (t178 != 5) = true := by have h_ := zc37b0_t178; simpa using h_))
             replace H : (if t178 = 0 then ((boomeranglaw1_Err.f t171).bind fun t179 => (if t179 = 3 then ((boomeranglaw2_awake.f).bind fun t180 => (some t180)) else (some false))) else (some false)) = some r := H
             have A69 := Aside0.mk A690
             clear A690
             by_cases c70 : t178 = 0
             ·rw [if_pos c70] at H
              have c70b0 : (t178 == 0) = true := beq_iff_eq.mpr c70
              (try (have wc70b0_t159 : (t159 == 0) = true := by rw [Option.some.inj (A7.out.symm.trans A69.out)]; exact c70b0))
              (try (have vc70b0_t159 : (t159 != 0) = false := by have h_ := wc70b0_t159; simpa using h_))
              (try (have wc70b0_t172 : (t172 == 0) = true := by rw [Option.some.inj (A36.out.symm.trans A69.out)]; exact c70b0))
              (try (have vc70b0_t172 : (t172 != 0) = false := by have h_ := wc70b0_t172; simpa using h_))
              have c70b1 : (t178 != 0) = false := bne_eq_false_iff_eq.mpr c70
              clear c70
              replace H := Option.bind_eq_some_iff.mp H
              obtain ⟨t179, A710, H⟩ := H
              (try (have zc37b0_t179 : (t179 == 5) = false := by rw [← Option.some.inj (A36.out.symm.trans A710)]; exact c37b0))
              (try (have yc37b0_t179 : (t179 != 5) = true := by have h_ := zc37b0_t179; simpa using h_))
              (try (have zc70b0_t179 : (t179 == 0) = true := by rw [← Option.some.inj (A69.out.symm.trans A710)]; exact c70b0))
              (try (have yc70b0_t179 : (t179 != 0) = false := by have h_ := zc70b0_t179; simpa using h_))
              replace H : (if t179 = 3 then ((boomeranglaw2_awake.f).bind fun t180 => (some t180)) else (some false)) = some r := H
              have A71 := Aside0.mk A710
              clear A710
              by_cases c72 : t179 = 3
              ·rw [if_pos c72] at H
               have c72b0 : (t179 == 3) = true := beq_iff_eq.mpr c72
               (try (have wc72b0_t159 : (t159 == 3) = true := by rw [Option.some.inj (A7.out.symm.trans A71.out)]; exact c72b0))
               (try (have vc72b0_t159 : (t159 != 3) = false := by have h_ := wc72b0_t159; simpa using h_))
               (try (have wc72b0_t172 : (t172 == 3) = true := by rw [Option.some.inj (A36.out.symm.trans A71.out)]; exact c72b0))
               (try (have vc72b0_t172 : (t172 != 3) = false := by have h_ := wc72b0_t172; simpa using h_))
               (try (have wc72b0_t178 : (t178 == 3) = true := by rw [Option.some.inj (A69.out.symm.trans A71.out)]; exact c72b0))
               (try (have vc72b0_t178 : (t178 != 3) = false := by have h_ := wc72b0_t178; simpa using h_))
               have c72b1 : (t179 != 3) = false := bne_eq_false_iff_eq.mpr c72
               clear c72
               replace H := Option.bind_eq_some_iff.mp H
               obtain ⟨t180, A730, H⟩ := H
               (try (have zc37b0_t180 : (t180 == 5) = false := by rw [← Option.some.inj (A36.out.symm.trans A730)]; exact c37b0))
               (try (have yc37b0_t180 : (t180 != 5) = true := by have h_ := zc37b0_t180; simpa using h_))
               (try (have zc70b0_t180 : (t180 == 0) = true := by rw [← Option.some.inj (A69.out.symm.trans A730)]; exact c70b0))
               (try (have yc70b0_t180 : (t180 != 0) = false := by have h_ := zc70b0_t180; simpa using h_))
               (try (have zc72b0_t180 : (t180 == 3) = true := by rw [← Option.some.inj (A71.out.symm.trans A730)]; exact c72b0))
               (try (have yc72b0_t180 : (t180 != 3) = false := by have h_ := zc72b0_t180; simpa using h_))
               replace H : (some t180) = some r := H
               have A73 := Aside0.mk A730
               clear A730
               obtain rfl := Option.some.inj H
               have hcv74 := Kd.B_string (P := Try.prog) Try.underlying22 Try.underlying5 Try.underlying9 HO_10.out
               go_wp2_with (first | ((with_reducible refine gate_callee (f := 15) rfl ?_); refine goesL_ (some 79) rfl rfl Try.func15 (by kernel_rfl) rfl #[.string (strOfNums x10_2)] rfl (by (try simp only [List.map_toArray, List.map_cons, List.map_nil]); first | done | rfl | (simp only [List.length_drop, List.length_take]; rfl)) ?_; (with_reducible refine (crc_Get.calls (strOfNums x10_2) t168 t169 _ A33.out).mono ?_); rintro e w75 ⟨rfl, hb⟩; refine ⟨_, rfl, ?_⟩; have n0_ := Aside0.mk (Kd.B_below (by (with_reducible repeat (first | apply Kd.B_alloc | apply Kd.B_drewN | apply Kd.B_drew)); exact HO_10.out) hb); have n1_ := Aside0.mk (below_step (by repeat (first | (with_reducible first | exact HB.out | apply below_alloc | apply pw_below_drewN | apply below_drew1) | exact HB.out)) hb); clear HO_10; clear HB; have HO_10 := n0_; have HB := n1_; clear n0_ n1_; (try clear hb); (try clear hb2); (try clear hk); (try clear hi)) | ((with_reducible refine gate_callee (f := 15) rfl ?_); refine goesL_ (some 85) rfl rfl Try.func15 (by kernel_rfl) rfl #[.string (t159.extract 0 3)] rfl (by (try simp only [List.map_toArray, List.map_cons, List.map_nil]); first | done | rfl | (simp only [List.length_drop, List.length_take]; rfl)) ?_; (with_reducible refine (crc_Get.calls (t159.extract 0 3) t170 t171 _ A35.out).mono ?_); rintro e w76 ⟨rfl, hb⟩; refine ⟨_, rfl, ?_⟩; have n0_ := Aside0.mk (Kd.B_below (by (with_reducible repeat (first | apply Kd.B_alloc | apply Kd.B_drewN | apply Kd.B_drew)); exact HO_10.out) hb); have n1_ := Aside0.mk (below_step (by repeat (first | (with_reducible first | exact HB.out | apply below_alloc | apply pw_below_drewN | apply below_drew1) | exact HB.out)) hb); clear HO_10; clear HB; have HO_10 := n0_; have HB := n1_; clear n0_ n1_; (try clear hb); (try clear hb2); (try clear hk); (try clear hi)) | ((with_reducible refine gate_callee (f := 19) rfl ?_); refine goesL_ (some 89) rfl rfl Try.func19 (by kernel_rfl) rfl #[.int .i64 t169] rfl (by (try simp only [List.map_toArray, List.map_cons, List.map_nil]); first | done | rfl | (simp only [List.length_drop, List.length_take]; rfl)) ?_; (with_reducible refine (boomeranglaw1_Err.calls t169 t172 _ A36.out).mono ?_); rintro e w' ⟨rfl, ⟨nd, rfl⟩⟩; refine ⟨_, rfl, ?_⟩) | (go_at_call 19; (with_reducible refine (boomeranglaw1_Err.calls t169 t178 _ A69.out).mono ?_); rintro e w' ⟨rfl, ⟨nd, rfl⟩⟩) | (go_at_call 19; (with_reducible refine (boomeranglaw1_Err.calls t171 t179 _ A71.out).mono ?_); rintro e w' ⟨rfl, ⟨nd, rfl⟩⟩) | (go_at_call 13; (with_reducible refine (boomeranglaw2_awake.calls  t180 _ A73.out).mono ?_); rintro e w77 ⟨rfl, hb⟩; have n0_ := Aside0.mk (Kd.B_below (by (with_reducible repeat (first | apply Kd.B_alloc | apply Kd.B_drewN | apply Kd.B_drew)); exact HO_10.out) hb); have n1_ := Aside0.mk (below_step (by repeat (first | (with_reducible first | exact HB.out | apply below_alloc | apply pw_below_drewN | apply below_drew1) | exact HB.out)) hb); clear HO_10; clear HB; have HO_10 := n0_; have HB := n1_; clear n0_ n1_; (try clear hb); (try clear hb2); (try clear hk); (try clear hi)))
               go_ret
               exact ⟨by first | rfl | (simp [errW_none, errW_some] <;> rfl) | (simp [*, errW_none, errW_some] <;> rfl), by repeat (first | (with_reducible first | exact HB.out | apply below_alloc | apply pw_below_drewN | apply below_drew1) | exact HB.out)⟩
              ·rw [if_neg c72] at H
               exact absurd (H.trans (congrArg some HRT.out)) (by simp)
             ·rw [if_neg c70] at H
              exact absurd (H.trans (congrArg some HRT.out)) (by simp)
            ·rw [if_neg c68] at H
             exact absurd (H.trans (congrArg some HRT.out)) (by simp)
          ·rw [if_neg c34] at H
           exact absurd H (by simp)
     ·rw [if_neg c16] at H
      exact absurd H (by simp)

/-- THE ONE PURE STATEMENT of boomeranglaw2_CrcBursts: yours. -/
def boomeranglaw2_CrcBursts.Pure : Prop := ∀ (a0 : ByteArray) (a1 : Int) (a2 : Int), a0.size ≤ 140737488351232 → (Lit.int .u16 a1).wf = true → (Lit.int .u32 a2).wf = true → ∃ k, boomeranglaw2_CrcBursts.f k a0 a1 a2 = some true
theorem boomeranglaw2_CrcBursts.walk (P : boomeranglaw2_CrcBursts.Pure) (a0 : ByteArray) (a1 : Int) (a2 : Int) (w : World) (w0 : a0.size ≤ 140737488351232) (w1 : (Lit.int .u16 a1).wf = true) (w2 : (Lit.int .u32 a2).wf = true) :
  Calls Try.prog 6 #[.string a0, .int .u16 a1, .int .u32 a2] w fun e w' => e = .returned (.bool true) ∧ Below w.heap.size w w' := by
 obtain ⟨k, h⟩ := P a0 a1 a2 w0 w1 w2
 refine (boomeranglaw2_CrcBursts.calls k a0 a1 a2 true w h rfl).mono ?_
 rintro e w' ⟨rfl, hd⟩
 exact ⟨rfl, hd⟩

end Go.Proofs.Ythhigjfkekdmiaa.M
