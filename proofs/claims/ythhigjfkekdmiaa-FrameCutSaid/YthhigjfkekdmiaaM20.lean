-- Written by a program of this session (wip/tools/mine.sh), out of the translation and hand-given contracts.
import Derived.Test.YthhigjfkekdmiaaM0
import Derived.Test.YthhigjfkekdmiaaM7
import Derived.Test.YthhigjfkekdmiaaM10
import Derived.Test.YthhigjfkekdmiaaM14
import Derived.Test.YthhigjfkekdmiaaM18
namespace Go.Proofs.Ythhigjfkekdmiaa.M
open Go.RowKit Go.Proofs.YthhigjfkekdmiaaW.PrintWords Go.Proofs.YthhigjfkekdmiaaW.PrintLast Go.Proofs.YthhigjfkekdmiaaW.PrintMore
attribute [local go_sem] max2_int min2_int max_two min_two max_three min_three max_four min_four   -- for this text's walks alone
set_option linter.unusedVariables false
set_option linter.unusedSimpArgs false

/-! ### boomeranglaw3_FrameCut: function 8 -/
mutual
def boomeranglaw3_FrameCut.l0 : Nat → List ByteArray → Int → Int → Int → ByteArray → List Int → Int → Option (Bool)
 | 0, _, _, _, _, _, _, _ => none
 | k + 1, x0, x1, x2, x3, x9, x10, x11 => if x11 < (x0.length : Int) then (if 0 ≤ x11 then (if ((rdOf ByteArray.empty x0 x11).size : Int) > 300 then ((boomeranglaw3_awake.f k).bind fun t286 => (some t286)) else ((frame_Put.f k (rdOf ByteArray.empty x0 x11)).bind fun bt288 => ((boomeranglaw1_Err.f bt288.2).bind fun t290 => (if t290 = 0 then (if x9.size + bt288.1.size ≤ 9223372036854775807 then (if x10.length < 17592186044416 then (boomeranglaw3_FrameCut.l0 k x0 x1 x2 x3 (x9 ++ bt288.1) (x10 ++ [(x9.size : Int) + (bt288.1.size : Int)]) (wrap64 (x11 + 1))) else (none)) else (none)) else (some false))))) else (none)) else (if (wrap64 ((x9.size : Int) + 1)) = 0 then (none) else (boomeranglaw3_FrameCut.l1 k x0 x2 x3 x9 x10 (Int.tmod (wrap64 (x1)) (wrap64 ((x9.size : Int) + 1))) 0 0 0))
def boomeranglaw3_FrameCut.l1 : Nat → List ByteArray → Int → Int → ByteArray → List Int → Int → Int → Int → Int → Option (Bool)
 | 0, _, _, _, _, _, _, _, _, _ => none
 | k + 1, x0, x2, x3, x9, x10, x14, x15, x16, x17 => if x17 < (x10.length : Int) then (if 0 ≤ x17 then (if (rd x10 x17) ≤ x14 then (boomeranglaw3_FrameCut.l1 k x0 x2 x3 x9 x10 x14 (wrap64 (x17 + 1)) (rd x10 x17) (wrap64 (x17 + 1))) else (boomeranglaw3_FrameCut.l1 k x0 x2 x3 x9 x10 x14 x15 x16 (wrap64 (x17 + 1)))) else (none)) else (if 0 ≤ x14 then (if x14 ≤ (x9.size : Int) then ((frame_All.f k (x9.extract 0 (x14 : Int).toNat)).bind fun bt296 => (if 0 ≤ x15 then (if x15 ≤ (x0.length : Int) then ((boomerangref1_SameTexts.f k bt296.1 (x0.take (x15 : Int).toNat)).bind fun t302 => (if t302 = true then (if bt296.2.1 = x16 then ((boomeranglaw1_Err.f bt296.2.2).bind fun t303 => (if t303 = 0 then ((boomeranglaw1_Err.f bt296.2.2).bind fun t304 => (boomeranglaw3_FrameCut.j2 k x0 x2 x3 x9 x10 ((t304 == 0) != (x16 == x14)))) else ((boomeranglaw1_Err.f bt296.2.2).bind fun t305 => (if t305 = 3 then ((boomeranglaw1_Err.f bt296.2.2).bind fun t306 => (boomeranglaw3_FrameCut.j2 k x0 x2 x3 x9 x10 ((t306 == 0) != (x16 == x14)))) else (boomeranglaw3_FrameCut.j2 k x0 x2 x3 x9 x10 true))))) else (boomeranglaw3_FrameCut.j2 k x0 x2 x3 x9 x10 true)) else (boomeranglaw3_FrameCut.j2 k x0 x2 x3 x9 x10 true))) else (none)) else (none))) else (none)) else (none))
def boomeranglaw3_FrameCut.j2 : Nat → List ByteArray → Int → Int → ByteArray → List Int → Bool → Option (Bool)
 | 0, _, _, _, _, _, _ => none
 | k + 1, x0, x2, x3, x9, x10, x125 => if x125 = true then (some false) else (if (x9.size : Int) = 0 then ((boomeranglaw3_awake.f k).bind fun t307 => (some t307)) else (if x9.size ≤ 9223372036854775807 then ((some (bytesOf x9 : List Int)).bind fun y308 => (if (y308.length : Int) = 0 then (none) else (if 0 ≤ (Int.tmod (wrap64 (x2)) (y308.length : Int)) then (if (Int.tmod (wrap64 (x2)) (y308.length : Int)) < (y308.length : Int) then (boomeranglaw3_FrameCut.l2 k x0 x3 x10 (y308.set ((Int.tmod (wrap64 (x2)) (y308.length : Int)) : Int).toNat (Go.bits .xor .u8 (rd y308 (Int.tmod (wrap64 (x2)) (y308.length : Int))) x3)) (Int.tmod (wrap64 (x2)) (y308.length : Int)) 0 0) else (none)) else (none)))) else (none)))
def boomeranglaw3_FrameCut.l2 : Nat → List ByteArray → Int → List Int → List Int → Int → Int → Int → Option (Bool)
 | 0, _, _, _, _, _, _, _ => none
 | k + 1, x0, x3, x10, x21, x22, x23, x24 => if x24 < (x10.length : Int) then (if 0 ≤ x24 then (if (rd x10 x24) ≤ x22 then (boomeranglaw3_FrameCut.l2 k x0 x3 x10 x21 x22 (wrap64 (x24 + 1)) (wrap64 (x24 + 1))) else (boomeranglaw3_FrameCut.l2 k x0 x3 x10 x21 x22 x23 (wrap64 (x24 + 1)))) else (none)) else ((frame_All.f k (strOfNums x21)).bind fun bt314 => (if (bt314.1.length : Int) ≥ x23 then (if 0 ≤ x23 then (if x23 ≤ (bt314.1.length : Int) then (if x23 ≤ (x0.length : Int) then ((boomerangref1_SameTexts.f k (bt314.1.take (x23 : Int).toNat) (x0.take (x23 : Int).toNat)).bind fun t324 => (if t324 = true then (if x3 = 0 then ((boomeranglaw1_Err.f bt314.2.2).bind fun t325 => (if t325 = 0 then ((boomeranglaw3_awake.f k).bind fun t326 => (some t326)) else (some false))) else ((boomeranglaw3_awake.f k).bind fun t327 => (some t327))) else (some false))) else (none)) else (none)) else (none)) else (some false)))
end
def boomeranglaw3_FrameCut.f (k : Nat) (l0 : List ByteArray) (a1 : Int) (a2 : Int) (a3 : Int) : Option (Bool) := if (l0.length : Int) > 12 then ((boomeranglaw3_awake.f k).bind fun t284 => (some t284)) else (boomeranglaw3_FrameCut.l0 k l0 a1 a2 a3 (⟨#[]⟩ : ByteArray) ([] : List Int) 0)
theorem boomeranglaw3_FrameCut.mono_l : ∀ k, (∀ y0 y1 y2 y3 y4 y5 y6, LeO (boomeranglaw3_FrameCut.l0 k y0 y1 y2 y3 y4 y5 y6) (boomeranglaw3_FrameCut.l0 (k + 1) y0 y1 y2 y3 y4 y5 y6)) ∧ (∀ y0 y1 y2 y3 y4 y5 y6 y7 y8, LeO (boomeranglaw3_FrameCut.l1 k y0 y1 y2 y3 y4 y5 y6 y7 y8) (boomeranglaw3_FrameCut.l1 (k + 1) y0 y1 y2 y3 y4 y5 y6 y7 y8)) ∧ (∀ y0 y1 y2 y3 y4 y5, LeO (boomeranglaw3_FrameCut.j2 k y0 y1 y2 y3 y4 y5) (boomeranglaw3_FrameCut.j2 (k + 1) y0 y1 y2 y3 y4 y5)) ∧ (∀ y0 y1 y2 y3 y4 y5 y6, LeO (boomeranglaw3_FrameCut.l2 k y0 y1 y2 y3 y4 y5 y6) (boomeranglaw3_FrameCut.l2 (k + 1) y0 y1 y2 y3 y4 y5 y6))
 | 0 => ⟨fun _ _ _ _ _ _ _ r h => by simp [boomeranglaw3_FrameCut.l0] at h, fun _ _ _ _ _ _ _ _ _ r h => by simp [boomeranglaw3_FrameCut.l1] at h, fun _ _ _ _ _ _ r h => by simp [boomeranglaw3_FrameCut.j2] at h, fun _ _ _ _ _ _ _ r h => by simp [boomeranglaw3_FrameCut.l2] at h⟩
 | k + 1 => by
  obtain ⟨ih0, ih1, ih2, ih3⟩ := boomeranglaw3_FrameCut.mono_l k
  refine ⟨?_, ?_, ?_, ?_⟩
  ·intro y0 y1 y2 y3 y4 y5 y6
   unfold boomeranglaw3_FrameCut.l0
   repeat' first
   | (with_reducible exact ih0 _ _ _ _ _ _ _)
   | (with_reducible exact ih1 _ _ _ _ _ _ _ _ _)
   | (with_reducible exact ih2 _ _ _ _ _ _)
   | (with_reducible exact ih3 _ _ _ _ _ _ _)
   | (with_reducible exact boomeranglaw3_awake.mono _)
   | (with_reducible exact boomerangref1_SameTexts.mono _ _ _)
   | (with_reducible exact frame_All.mono _ _)
   | (with_reducible exact frame_Put.mono _ _)
   | (with_reducible exact LeO.refl _)
   | (with_reducible exact LeO.none _)
   | (with_reducible refine LeO.ite ?_ ?_)
   | (with_reducible refine LeO.bind ?_ (fun _ => ?_))
   | exact ih0 _ _ _ _ _ _ _
   | exact ih1 _ _ _ _ _ _ _ _ _
   | exact ih2 _ _ _ _ _ _
   | exact ih3 _ _ _ _ _ _ _
   | exact boomeranglaw3_awake.mono _
   | exact boomerangref1_SameTexts.mono _ _ _
   | exact frame_All.mono _ _
   | exact frame_Put.mono _ _
   | exact LeO.none _
   | refine LeO.ite ?_ ?_
   | refine LeO.bind ?_ (fun _ => ?_)
  ·intro y0 y1 y2 y3 y4 y5 y6 y7 y8
   unfold boomeranglaw3_FrameCut.l1
   repeat' first
   | (with_reducible exact ih0 _ _ _ _ _ _ _)
   | (with_reducible exact ih1 _ _ _ _ _ _ _ _ _)
   | (with_reducible exact ih2 _ _ _ _ _ _)
   | (with_reducible exact ih3 _ _ _ _ _ _ _)
   | (with_reducible exact boomeranglaw3_awake.mono _)
   | (with_reducible exact boomerangref1_SameTexts.mono _ _ _)
   | (with_reducible exact frame_All.mono _ _)
   | (with_reducible exact frame_Put.mono _ _)
   | (with_reducible exact LeO.refl _)
   | (with_reducible exact LeO.none _)
   | (with_reducible refine LeO.ite ?_ ?_)
   | (with_reducible refine LeO.bind ?_ (fun _ => ?_))
   | exact ih0 _ _ _ _ _ _ _
   | exact ih1 _ _ _ _ _ _ _ _ _
   | exact ih2 _ _ _ _ _ _
   | exact ih3 _ _ _ _ _ _ _
   | exact boomeranglaw3_awake.mono _
   | exact boomerangref1_SameTexts.mono _ _ _
   | exact frame_All.mono _ _
   | exact frame_Put.mono _ _
   | exact LeO.none _
   | refine LeO.ite ?_ ?_
   | refine LeO.bind ?_ (fun _ => ?_)
  ·intro y0 y1 y2 y3 y4 y5
   unfold boomeranglaw3_FrameCut.j2
   repeat' first
   | (with_reducible exact ih0 _ _ _ _ _ _ _)
   | (with_reducible exact ih1 _ _ _ _ _ _ _ _ _)
   | (with_reducible exact ih2 _ _ _ _ _ _)
   | (with_reducible exact ih3 _ _ _ _ _ _ _)
   | (with_reducible exact boomeranglaw3_awake.mono _)
   | (with_reducible exact boomerangref1_SameTexts.mono _ _ _)
   | (with_reducible exact frame_All.mono _ _)
   | (with_reducible exact frame_Put.mono _ _)
   | (with_reducible exact LeO.refl _)
   | (with_reducible exact LeO.none _)
   | (with_reducible refine LeO.ite ?_ ?_)
   | (with_reducible refine LeO.bind ?_ (fun _ => ?_))
   | exact ih0 _ _ _ _ _ _ _
   | exact ih1 _ _ _ _ _ _ _ _ _
   | exact ih2 _ _ _ _ _ _
   | exact ih3 _ _ _ _ _ _ _
   | exact boomeranglaw3_awake.mono _
   | exact boomerangref1_SameTexts.mono _ _ _
   | exact frame_All.mono _ _
   | exact frame_Put.mono _ _
   | exact LeO.none _
   | refine LeO.ite ?_ ?_
   | refine LeO.bind ?_ (fun _ => ?_)
  ·intro y0 y1 y2 y3 y4 y5 y6
   unfold boomeranglaw3_FrameCut.l2
   repeat' first
   | (with_reducible exact ih0 _ _ _ _ _ _ _)
   | (with_reducible exact ih1 _ _ _ _ _ _ _ _ _)
   | (with_reducible exact ih2 _ _ _ _ _ _)
   | (with_reducible exact ih3 _ _ _ _ _ _ _)
   | (with_reducible exact boomeranglaw3_awake.mono _)
   | (with_reducible exact boomerangref1_SameTexts.mono _ _ _)
   | (with_reducible exact frame_All.mono _ _)
   | (with_reducible exact frame_Put.mono _ _)
   | (with_reducible exact LeO.refl _)
   | (with_reducible exact LeO.none _)
   | (with_reducible refine LeO.ite ?_ ?_)
   | (with_reducible refine LeO.bind ?_ (fun _ => ?_))
   | exact ih0 _ _ _ _ _ _ _
   | exact ih1 _ _ _ _ _ _ _ _ _
   | exact ih2 _ _ _ _ _ _
   | exact ih3 _ _ _ _ _ _ _
   | exact boomeranglaw3_awake.mono _
   | exact boomerangref1_SameTexts.mono _ _ _
   | exact frame_All.mono _ _
   | exact frame_Put.mono _ _
   | exact LeO.none _
   | refine LeO.ite ?_ ?_
   | refine LeO.bind ?_ (fun _ => ?_)
theorem boomeranglaw3_FrameCut.mono : ∀ a0 a1 a2 a3 k, LeO (boomeranglaw3_FrameCut.f k a0 a1 a2 a3) (boomeranglaw3_FrameCut.f (k + 1) a0 a1 a2 a3) := by
 intro a0 a1 a2 a3 k
 obtain ⟨ih0, ih1, ih2, ih3⟩ := boomeranglaw3_FrameCut.mono_l k
 unfold boomeranglaw3_FrameCut.f
 repeat' first
   | (with_reducible exact ih0 _ _ _ _ _ _ _)
   | (with_reducible exact ih1 _ _ _ _ _ _ _ _ _)
   | (with_reducible exact ih2 _ _ _ _ _ _)
   | (with_reducible exact ih3 _ _ _ _ _ _ _)
   | (with_reducible exact boomeranglaw3_awake.mono _)
   | (with_reducible exact boomerangref1_SameTexts.mono _ _ _)
   | (with_reducible exact frame_All.mono _ _)
   | (with_reducible exact frame_Put.mono _ _)
   | (with_reducible exact LeO.refl _)
   | (with_reducible exact LeO.none _)
   | (with_reducible refine LeO.ite ?_ ?_)
   | (with_reducible refine LeO.bind ?_ (fun _ => ?_))
   | exact ih0 _ _ _ _ _ _ _
   | exact ih1 _ _ _ _ _ _ _ _ _
   | exact ih2 _ _ _ _ _ _
   | exact ih3 _ _ _ _ _ _ _
   | exact boomeranglaw3_awake.mono _
   | exact boomerangref1_SameTexts.mono _ _ _
   | exact frame_All.mono _ _
   | exact frame_Put.mono _ _
   | exact LeO.none _
   | refine LeO.ite ?_ ?_
   | refine LeO.bind ?_ (fun _ => ?_)
def boomeranglaw3_FrameCut.T38 : Bool × List (List Nat × List Nat) := (true, [([], []), ([0], [0]), ([], []), ([1, 2], [1, 2]), ([3], [3]), ([4], [4]), ([4], [4]), ([5, 6, 4], [4, 5, 6]), ([4], [4]), ([4], [4]), ([8, 9, 4], [4, 8, 9]), ([7, 10, 4, 4], [4, 7, 10]), ([4, 11], [4, 11]), ([12, 11], [12]), ([13], [13]), ([14, 13], [13, 14]), ([15, 13, 13], [13, 15]), ([16], [16]), ([17, 16, 16], [16, 17]), ([18, 16], [16, 18]), ([16, 19, 13], [13, 16, 19]), ([13, 20], [13, 20]), ([21, 18], [21]), ([22, 22], [22]), ([22, 23], [22, 23]), ([24, 23, 0, 1, 2, 3, 4, 5, 6, 7, 8, 9, 10, 11, 12, 13, 14, 15, 16, 17, 18, 19, 20, 21, 22, 23, 24], [24])])
def boomeranglaw3_FrameCut.B38 : List Nat := [0, 1, 0, 7, 15, 31, 31, 127, 31, 31, 799, 2047, 4095, 8191, 16383, 32767, 65535, 131071, 262143, 524287, 1048575, 2097151, 4194303, 8388607, 16777215, 33554431]
theorem boomeranglaw3_FrameCut.tab38 : rtab .any (opsOf Try.f8 38) = boomeranglaw3_FrameCut.T38 := by kernel_rfl
theorem boomeranglaw3_FrameCut.bits38 : waitsOk boomeranglaw3_FrameCut.T38.2 boomeranglaw3_FrameCut.B38 = true := by kernel_rfl
set_option maxHeartbeats 8000000 in
set_option maxRecDepth 100000 in
theorem boomeranglaw3_FrameCut.calls (k : Nat) (A0 : Option Addr) (c0 : Nat) (l0 : List ByteArray) (a1 : Int) (a2 : Int) (a3 : Int) (r : Bool) (w : World) (hr0 : Kd.C Kd.string w A0 l0.length l0) (hc0 : l0.length ≤ c0) (h : boomeranglaw3_FrameCut.f k l0 a1 a2 a3 = some r) :
  Calls Try.prog 8 #[.slice A0 l0.length c0, .int .u16 a1, .int .u16 a2, .int .u8 a3] w fun e w' => e = .returned (.bool r) ∧ Below w.heap.size w w' := by
 have HR0 := Aside0.mk hr0
 have HC0 := Aside0.mk hc0
 clear hr0 hc0
 have HB := Aside0.mk (Below.refl w.heap.size w)
 have H : (if (l0.length : Int) > 12 then ((boomeranglaw3_awake.f k).bind fun t284 => (some t284)) else (boomeranglaw3_FrameCut.l0 k l0 a1 a2 a3 (⟨#[]⟩ : ByteArray) ([] : List Int) 0)) = some r := h
 clear h
 by_cases c5 : (l0.length : Int) > 12
 ·rw [if_pos c5] at H
  have c5b0 : decide (12 < (l0.length : Int)) = true := decide_eq_true c5
  have c5b1 : decide (12 < l0.length) = true := decide_eq_true (by omega)
  clear c5
  replace H := Option.bind_eq_some_iff.mp H
  obtain ⟨t284, A60, H⟩ := H
  replace H : (some t284) = some r := H
  have A6 := Aside0.mk A60
  clear A60
  obtain rfl := Option.some.inj H
  go_enter Try.func8, Try.ntmps8
  go_wp2_with (first | ((with_reducible refine gate_callee (f := 20) rfl ?_); refine goesL_ (some 31) rfl rfl Try.func20 (by kernel_rfl) rfl #[] rfl (by (try simp only [List.map_toArray, List.map_cons, List.map_nil]); first | done | rfl | (simp only [List.length_drop, List.length_take]; rfl)) ?_; (with_reducible refine (boomeranglaw3_awake.calls k  t284 _ A6.out).mono ?_); rintro e w7 ⟨rfl, hb⟩; refine ⟨_, rfl, ?_⟩; have n0_ := Aside0.mk (below_step (by repeat (first | (with_reducible first | exact HB.out | apply below_alloc | apply pw_below_drewN | apply below_drew1) | exact HB.out)) hb); clear HB; have HB := n0_; clear n0_; (try clear hb); (try clear hb2); (try clear hk); (try clear hi)))
  go_ret
  exact ⟨by first | rfl | (simp [errW_none, errW_some] <;> rfl) | (simp [*, errW_none, errW_some] <;> rfl), by repeat (first | (with_reducible first | exact HB.out | apply below_alloc | apply pw_below_drewN | apply below_drew1) | exact HB.out)⟩
 ·rw [if_neg c5] at H
  have c5b0 : decide (12 < (l0.length : Int)) = false := decide_eq_false c5
  have c5b1 : decide (12 < l0.length) = false := decide_eq_false (by omega)
  clear c5
  have H' := Aside0.mk H
  clear H
  go_enter Try.func8, Try.ntmps8
  go_wp2
  go_loopg [9, 10, 11] k (fun kq v9 v10 v11 w' => ∃ (x9_1 : ByteArray) (x10_1 : List Int) (x11_1 : Int), v9 = .string x9_1 ∧ v11 = .int .i64 x11_1 ∧ Aside0 (boomeranglaw3_FrameCut.l0 kq l0 a1 a2 a3 x9_1 x10_1 x11_1 = some r) ∧ Aside0 (kq ≤ k) ∧ Aside0 (Kd.R (Kd.int .i64) 3 w' w.heap.size (fun _ => True) v10 x10_1) ∧ Aside0 (Below w.heap.size w w'))
  case atStart => exact ⟨((⟨#[]⟩ : ByteArray)), (([] : List Int)), (0), (by first | rfl | (simp; done) | (simp [*]; done)), (by first | rfl | (simp; done) | (simp [*]; done)), H', ⟨Nat.le_refl _⟩, ⟨by first | exact Kd.R_nil _ _ _ _ _ | exact Kd.N_nil _ _ _ _ _ | exact Kd.V_nil _ _ _ _ _ | exact Kd.Q_nil _ _ _ _ _ | exact Kd.S_nil _ _ _ _ _⟩, ⟨by repeat (first | (with_reducible first | exact HB.out | apply below_alloc | apply pw_below_drewN | apply below_drew1) | exact HB.out)⟩⟩
  case round =>
   clear H'
   try clear c2
   try clear p2
   try clear c5
   try clear c5b0
   try clear c5b1
   obtain ⟨x9_1, x10_1, x11_1, rfl, rfl, HA, HK1, HO_10, HB⟩ := hrel
   cases gk with
   | zero => exact absurd HA.out (by simp [boomeranglaw3_FrameCut.l0])
   | succ k1 =>
    have H := HA.out
    clear HA
    simp only [boomeranglaw3_FrameCut.l0] at H
    by_cases c8 : x11_1 < (l0.length : Int)
    ·rw [if_pos c8] at H
     have c8b0 : decide (x11_1 < (l0.length : Int)) = true := decide_eq_true c8
     clear c8
     by_cases c9 : 0 ≤ x11_1
     ·rw [if_pos c9] at H
      have c9b0 : decide (0 ≤ x11_1) = true := decide_eq_true c9
      clear c9
      by_cases c10 : ((rdOf ByteArray.empty l0 x11_1).size : Int) > 300
      ·rw [if_pos c10] at H
       have c10b0 : decide (300 < ((rdOf ByteArray.empty l0 x11_1).size : Int)) = true := decide_eq_true c10
       have c10b1 : decide (300 < (rdOf ByteArray.empty l0 x11_1).size) = true := decide_eq_true (by omega)
       clear c10
       replace H := Option.bind_eq_some_iff.mp H
       obtain ⟨t286, A110, H⟩ := H
       replace H : (some t286) = some r := H
       have A11 := Aside0.mk A110
       clear A110
       obtain rfl := Option.some.inj H
       have p285 : 0 ≤ (x11_1 : Int) := of_decide_eq_true (by first | (with_reducible assumption) | assumption)
       have q285 : x11_1 < (l0.length : Int) := of_decide_eq_true (by first | (with_reducible assumption) | assumption)
       obtain ⟨ad285, e285, hx285_0⟩ := Kd.at_string HR0.out x11_1 p285 q285
       cases e285
       replace hx285_0 := (HB.out.cell (World.block_lt_of_cell? w _ hx285_0)).trans hx285_0
       replace p285 := eq_true p285
       replace q285 := eq_true q285
       go_wp2_with (first | ((with_reducible refine gate_callee (f := 20) rfl ?_); refine goesL_ (some 44) rfl rfl Try.func20 (by kernel_rfl) rfl #[] rfl (by (try simp only [List.map_toArray, List.map_cons, List.map_nil]); first | done | rfl | (simp only [List.length_drop, List.length_take]; rfl)) ?_; (with_reducible refine (boomeranglaw3_awake.calls k1  t286 _ A11.out).mono ?_); rintro e w12 ⟨rfl, hb⟩; refine ⟨_, rfl, ?_⟩; have n0_ := Aside0.mk (Kd.R_below (by (with_reducible repeat (first | apply Kd.R_alloc | apply Kd.R_drewN | apply Kd.R_drew)); exact HO_10.out) hb); have n1_ := Aside0.mk (below_step (by repeat (first | (with_reducible first | exact HB.out | apply below_alloc | apply pw_below_drewN | apply below_drew1) | exact HB.out)) hb); clear HO_10; clear HB; have HO_10 := n0_; have HB := n1_; clear n0_ n1_; (try clear hb); (try clear hb2); (try clear hk); (try clear hi)))
       go_ret
       exact ⟨by first | rfl | (simp [errW_none, errW_some] <;> rfl) | (simp [*, errW_none, errW_some] <;> rfl), by repeat (first | (with_reducible first | exact HB.out | apply below_alloc | apply pw_below_drewN | apply below_drew1) | exact HB.out)⟩
      ·rw [if_neg c10] at H
       have c10b0 : decide (300 < ((rdOf ByteArray.empty l0 x11_1).size : Int)) = false := decide_eq_false c10
       have c10b1 : decide (300 < (rdOf ByteArray.empty l0 x11_1).size) = false := decide_eq_false (by omega)
       clear c10
       replace H := Option.bind_eq_some_iff.mp H
       obtain ⟨⟨t288, t289⟩, A130, H⟩ := H
       replace H : ((boomeranglaw1_Err.f t289).bind fun t290 => (if t290 = 0 then (if x9_1.size + t288.size ≤ 9223372036854775807 then (if x10_1.length < 17592186044416 then (boomeranglaw3_FrameCut.l0 k1 l0 a1 a2 a3 (x9_1 ++ t288) (x10_1 ++ [(x9_1.size : Int) + (t288.size : Int)]) (wrap64 (x11_1 + 1))) else (none)) else (none)) else (some false))) = some r := H
       have A13 := Aside0.mk A130
       clear A130
       replace H := Option.bind_eq_some_iff.mp H
       obtain ⟨t290, A140, H⟩ := H
       replace H : (if t290 = 0 then (if x9_1.size + t288.size ≤ 9223372036854775807 then (if x10_1.length < 17592186044416 then (boomeranglaw3_FrameCut.l0 k1 l0 a1 a2 a3 (x9_1 ++ t288) (x10_1 ++ [(x9_1.size : Int) + (t288.size : Int)]) (wrap64 (x11_1 + 1))) else (none)) else (none)) else (some false)) = some r := H
       have A14 := Aside0.mk A140
       clear A140
       by_cases c15 : t290 = 0
       ·rw [if_pos c15] at H
        have c15b0 : (t290 == 0) = true := beq_iff_eq.mpr c15
        have c15b1 : (t290 != 0) = false := bne_eq_false_iff_eq.mpr c15
        clear c15
        by_cases c16 : x9_1.size + t288.size ≤ 9223372036854775807
        ·rw [if_pos c16] at H
         have c16b0 := eq_true c16
         have c16b1 : decide (x9_1.size + t288.size ≤ 9223372036854775807) = true := decide_eq_true c16
         try have c16b2 : (9223372036854775807 < x9_1.size + t288.size) = False := eq_false (Nat.not_lt.2 c16)
         by_cases c17 : x10_1.length < 17592186044416
         ·rw [if_pos c17] at H
          have LMc17 := Aside0.mk c17
          clear c17
          obtain ⟨y291, hy291⟩ : ∃ y_ : List Int, y_ = (x10_1 ++ [(x9_1.size : Int) + (t288.size : Int)]) := ⟨_, rfl⟩
          replace H : (boomeranglaw3_FrameCut.l0 k1 l0 a1 a2 a3 (x9_1 ++ t288) y291 (wrap64 (x11_1 + 1))) = some r := by first | (rw [hy291]; with_reducible exact H) | (have H2_ := (Option.bind_some _ _).symm.trans H; rw [hy291]; with_reducible exact H2_) | (have H2_ := (Option.bind_some _ _).symm.trans H; with_reducible exact H2_) | with_reducible exact H | (rw [hy291]; exact H) | exact H
          have Ny291 := Aside0.mk hy291
          clear hy291
          have H' := Aside0.mk H
          clear H
          have p285 : 0 ≤ (x11_1 : Int) := of_decide_eq_true (by first | (with_reducible assumption) | assumption)
          have q285 : x11_1 < (l0.length : Int) := of_decide_eq_true (by first | (with_reducible assumption) | assumption)
          obtain ⟨ad285, e285, hx285_0⟩ := Kd.at_string HR0.out x11_1 p285 q285
          cases e285
          replace hx285_0 := (HB.out.cell (World.block_lt_of_cell? w _ hx285_0)).trans hx285_0
          replace p285 := eq_true p285
          replace q285 := eq_true q285
          have p287 : 0 ≤ (x11_1 : Int) := of_decide_eq_true (by first | (with_reducible assumption) | assumption)
          have q287 : x11_1 < (l0.length : Int) := of_decide_eq_true (by first | (with_reducible assumption) | assumption)
          obtain ⟨ad287, e287, hx287_0⟩ := Kd.at_string HR0.out x11_1 p287 q287
          obtain rfl : ad285 = ad287 := (by injection e287)
          replace hx287_0 := (HB.out.cell (World.block_lt_of_cell? w _ hx287_0)).trans hx287_0
          replace p287 := eq_true p287
          replace q287 := eq_true q287
          go_wp2_with (first | ((with_reducible refine gate_callee (f := 21) rfl ?_); refine goesL_ (some 50) rfl rfl Try.func21 (by kernel_rfl) rfl #[.string (rdOf ByteArray.empty l0 x11_1)] rfl (by (try simp only [List.map_toArray, List.map_cons, List.map_nil]); first | done | rfl | (simp only [List.length_drop, List.length_take]; rfl)) ?_; (with_reducible refine (frame_Put.calls k1 (rdOf ByteArray.empty l0 x11_1) t288 t289 _ A13.out).mono ?_); rintro e w18 ⟨rfl, hb⟩; refine ⟨_, rfl, ?_⟩; have n0_ := Aside0.mk (Kd.R_below (by (with_reducible repeat (first | apply Kd.R_alloc | apply Kd.R_drewN | apply Kd.R_drew)); exact HO_10.out) hb); have n1_ := Aside0.mk (below_step (by repeat (first | (with_reducible first | exact HB.out | apply below_alloc | apply pw_below_drewN | apply below_drew1) | exact HB.out)) hb); clear HO_10; clear HB; have HO_10 := n0_; have HB := n1_; clear n0_ n1_; (try clear hb); (try clear hb2); (try clear hk); (try clear hi)) | ((with_reducible refine gate_callee (f := 19) rfl ?_); refine goesL_ (some 54) rfl rfl Try.func19 (by kernel_rfl) rfl #[.int .i64 t289] rfl (by (try simp only [List.map_toArray, List.map_cons, List.map_nil]); first | done | rfl | (simp only [List.length_drop, List.length_take]; rfl)) ?_; (with_reducible refine (boomeranglaw1_Err.calls t289 t290 _ A14.out).mono ?_); rintro e w' ⟨rfl, ⟨nd, rfl⟩⟩; refine ⟨_, rfl, ?_⟩) | ((with_reducible refine gate_builtin (b := .append) (xs := #[.tmp 59, .tmp 62]) rfl ?_); at_builtin; refine Kd.R_append (Kd.int .i64) (w0 := w) w.heap.size rfl (.tmp 59) (.tmp 62) 42 3 (.int .i64 0) 8 rfl Try.underlying42 info3 rfl (by decide) (by omega) u10 x10_1 ((x9_1.size : Int) + (t288.size : Int)) [.int .i64 ((x9_1.size : Int) + (t288.size : Int))] (fun _ => True) (fun _ => False) rfl rfl ?aP (fun _ hk => hk.elim) ?aF ?aO ?aB ?aS ?aL ?_; (case aP => exact rfl); (case aB => exact (by repeat (first | (with_reducible first | exact HB.out | apply below_alloc | apply pw_below_drewN | apply below_drew1) | exact HB.out))); (case aF => exact (fun _ _ => trivial)); (case aO => exact (by (with_reducible repeat (first | apply Kd.R_alloc | apply Kd.R_drewN | apply Kd.R_drew)); exact HO_10.out)); (case aS => exact (below_size (by repeat (first | (with_reducible first | exact HB.out | apply below_alloc | apply pw_below_drewN | apply below_drew1) | exact HB.out)))); (case aL => have := LMc17.out; omega); intro v292 w19 ho hb hg hat; rw [← Ny291.out] at ho; have n0_ := Aside0.mk (hb); have n1_ := Aside0.mk (ho); clear HB; clear HO_10; have HB := n0_; have HO293 := n1_; clear n0_ n1_; clear ho hb hg hat))
          go_roundg k1
          case measure => have := HK1.out; omega
          case rel => exact ⟨(x9_1 ++ t288), (y291), (wrap64 (x11_1 + 1)), (by first | rfl | (simp; done) | (simp [*]; done)), (by first | rfl | (simp; done) | (simp [*]; done)), H', ⟨by have := HK1.out; omega⟩, ⟨by (with_reducible repeat (first | apply Kd.R_alloc | apply Kd.R_drewN | apply Kd.R_drew)); exact HO293.out⟩, ⟨by repeat (first | (with_reducible first | exact HB.out | apply below_alloc | apply pw_below_drewN | apply below_drew1) | exact HB.out)⟩⟩
         ·rw [if_neg c17] at H
          exact absurd H (by simp)
        ·rw [if_neg c16] at H
         exact absurd H (by simp)
       ·rw [if_neg c15] at H
        have c15b0 : (t290 == 0) = false := beq_eq_false_iff_ne.mpr c15
        have c15b1 : (t290 != 0) = true := bne_iff_ne.mpr c15
        obtain rfl := Option.some.inj H
        have p285 : 0 ≤ (x11_1 : Int) := of_decide_eq_true (by first | (with_reducible assumption) | assumption)
        have q285 : x11_1 < (l0.length : Int) := of_decide_eq_true (by first | (with_reducible assumption) | assumption)
        obtain ⟨ad285, e285, hx285_0⟩ := Kd.at_string HR0.out x11_1 p285 q285
        cases e285
        replace hx285_0 := (HB.out.cell (World.block_lt_of_cell? w _ hx285_0)).trans hx285_0
        replace p285 := eq_true p285
        replace q285 := eq_true q285
        have p287 : 0 ≤ (x11_1 : Int) := of_decide_eq_true (by first | (with_reducible assumption) | assumption)
        have q287 : x11_1 < (l0.length : Int) := of_decide_eq_true (by first | (with_reducible assumption) | assumption)
        obtain ⟨ad287, e287, hx287_0⟩ := Kd.at_string HR0.out x11_1 p287 q287
        obtain rfl : ad285 = ad287 := (by injection e287)
        replace hx287_0 := (HB.out.cell (World.block_lt_of_cell? w _ hx287_0)).trans hx287_0
        replace p287 := eq_true p287
        replace q287 := eq_true q287
        go_wp2_with (first | ((with_reducible refine gate_callee (f := 21) rfl ?_); refine goesL_ (some 50) rfl rfl Try.func21 (by kernel_rfl) rfl #[.string (rdOf ByteArray.empty l0 x11_1)] rfl (by (try simp only [List.map_toArray, List.map_cons, List.map_nil]); first | done | rfl | (simp only [List.length_drop, List.length_take]; rfl)) ?_; (with_reducible refine (frame_Put.calls k1 (rdOf ByteArray.empty l0 x11_1) t288 t289 _ A13.out).mono ?_); rintro e w20 ⟨rfl, hb⟩; refine ⟨_, rfl, ?_⟩; have n0_ := Aside0.mk (Kd.R_below (by (with_reducible repeat (first | apply Kd.R_alloc | apply Kd.R_drewN | apply Kd.R_drew)); exact HO_10.out) hb); have n1_ := Aside0.mk (below_step (by repeat (first | (with_reducible first | exact HB.out | apply below_alloc | apply pw_below_drewN | apply below_drew1) | exact HB.out)) hb); clear HO_10; clear HB; have HO_10 := n0_; have HB := n1_; clear n0_ n1_; (try clear hb); (try clear hb2); (try clear hk); (try clear hi)) | ((with_reducible refine gate_callee (f := 19) rfl ?_); refine goesL_ (some 54) rfl rfl Try.func19 (by kernel_rfl) rfl #[.int .i64 t289] rfl (by (try simp only [List.map_toArray, List.map_cons, List.map_nil]); first | done | rfl | (simp only [List.length_drop, List.length_take]; rfl)) ?_; (with_reducible refine (boomeranglaw1_Err.calls t289 t290 _ A14.out).mono ?_); rintro e w' ⟨rfl, ⟨nd, rfl⟩⟩; refine ⟨_, rfl, ?_⟩))
        go_ret
        exact ⟨by first | rfl | (simp [errW_none, errW_some] <;> rfl) | (simp [*, errW_none, errW_some] <;> rfl), by repeat (first | (with_reducible first | exact HB.out | apply below_alloc | apply pw_below_drewN | apply below_drew1) | exact HB.out)⟩
     ·rw [if_neg c9] at H
      exact absurd H (by simp)
    ·rw [if_neg c8] at H
     have c8b0 : decide (x11_1 < (l0.length : Int)) = false := decide_eq_false c8
     clear c8
     by_cases c21 : (wrap64 ((x9_1.size : Int) + 1)) = 0
     ·rw [if_pos c21] at H
      exact absurd H (by simp)
     ·rw [if_neg c21] at H
      have c21b0 : ((wrap64 ((x9_1.size : Int) + 1)) == 0) = false := beq_eq_false_iff_ne.mpr c21
      have c21b1 : ((wrap64 ((x9_1.size : Int) + 1)) != 0) = true := bne_iff_ne.mpr c21
      have H' := Aside0.mk H
      clear H
      go_wp2
      go_loopg [15, 16, 17] k1 (fun kq v15 v16 v17 w' => ∃ (x15_2 : Int) (x16_2 : Int) (x17_2 : Int), v15 = .int .i64 x15_2 ∧ v16 = .int .i64 x16_2 ∧ v17 = .int .i64 x17_2 ∧ Aside0 (boomeranglaw3_FrameCut.l1 kq l0 a2 a3 x9_1 x10_1 (Int.tmod (wrap64 (a1)) (wrap64 ((x9_1.size : Int) + 1))) x15_2 x16_2 x17_2 = some r) ∧ Aside0 (kq ≤ k1) ∧ Aside0 (Kd.R (Kd.int .i64) 3 w' w.heap.size (fun _ => True) u10 x10_1) ∧ Aside0 (Below w.heap.size w w'))
      case atStart => exact ⟨(0), (0), (0), (by first | rfl | (simp; done) | (simp [*]; done)), (by first | rfl | (simp; done) | (simp [*]; done)), (by first | rfl | (simp; done) | (simp [*]; done)), H', ⟨Nat.le_refl _⟩, ⟨by (with_reducible repeat (first | apply Kd.R_alloc | apply Kd.R_drewN | apply Kd.R_drew)); exact HO_10.out⟩, ⟨by repeat (first | (with_reducible first | exact HB.out | apply below_alloc | apply pw_below_drewN | apply below_drew1) | exact HB.out)⟩⟩
      case round =>
       clear H'
       try clear c1
       try clear c2
       try clear p2
       try clear q2
       try clear hx2
       try clear c5
       try clear c5b0
       try clear c5b1
       try clear p6
       try clear c8
       try clear c8b0
       try clear c9
       try clear c9b0
       try clear c10
       try clear c10b0
       try clear c10b1
       try clear c15
       try clear c15b0
       try clear c15b1
       try clear c16
       try clear c16b0
       try clear c16b1
       try clear c16b2
       try clear c17
       try clear c19
       try clear c20
       try clear c21
       try clear c21b0
       try clear c21b1
       try clear hx285_0
       try clear hx287_0
       try clear p2
       try clear p285
       try clear p287
       try clear q285
       try clear q287
       obtain ⟨x15_2, x16_2, x17_2, rfl, rfl, rfl, HA, HK2, HO_10, HB⟩ := hrel
       cases gk with
       | zero => exact absurd HA.out (by simp [boomeranglaw3_FrameCut.l1])
       | succ k2 =>
        have H := HA.out
        clear HA
        simp only [boomeranglaw3_FrameCut.l1] at H
        by_cases c22 : x17_2 < (x10_1.length : Int)
        ·rw [if_pos c22] at H
         have c22b0 : decide (x17_2 < (x10_1.length : Int)) = true := decide_eq_true c22
         clear c22
         by_cases c23 : 0 ≤ x17_2
         ·rw [if_pos c23] at H
          have c23b0 : decide (0 ≤ x17_2) = true := decide_eq_true c23
          clear c23
          by_cases c24 : (rd x10_1 x17_2) ≤ (Int.tmod (wrap64 (a1)) (wrap64 ((x9_1.size : Int) + 1)))
          ·rw [if_pos c24] at H
           have c24b0 : decide ((rd x10_1 x17_2) ≤ (Int.tmod (wrap64 (a1)) (wrap64 ((x9_1.size : Int) + 1)))) = true := decide_eq_true c24
           clear c24
           have H' := Aside0.mk H
           clear H
           obtain ⟨Ao25, co25, eo25⟩ := Kd.R_slice HO_10.out
           subst eo25
           have p294 : 0 ≤ (x17_2 : Int) := of_decide_eq_true (by first | (with_reducible assumption) | assumption)
           have q294 : x17_2 < (x10_1.length : Int) := of_decide_eq_true (by first | (with_reducible assumption) | assumption)
           obtain ⟨ad294, e294, hx294_0⟩ := Kd.at_int (Kd.R_reads' HO_10.out).2.2 x17_2 p294 q294
           cases e294
           replace p294 := eq_true p294
           replace q294 := eq_true q294
           have p295 : 0 ≤ (x17_2 : Int) := of_decide_eq_true (by first | (with_reducible assumption) | assumption)
           have q295 : x17_2 < (x10_1.length : Int) := of_decide_eq_true (by first | (with_reducible assumption) | assumption)
           obtain ⟨ad295, e295, hx295_0⟩ := Kd.at_int (Kd.R_reads' HO_10.out).2.2 x17_2 p295 q295
           obtain rfl : ad294 = ad295 := (by injection e295)
           replace p295 := eq_true p295
           replace q295 := eq_true q295
           go_wp2
           go_roundg k2
           case measure => have := HK1.out; have := HK2.out; omega
           case rel => exact ⟨(wrap64 (x17_2 + 1)), (rd x10_1 x17_2), (wrap64 (x17_2 + 1)), (by first | rfl | (simp; done) | (simp [*]; done)), (by first | rfl | (simp; done) | (simp [*]; done)), (by first | rfl | (simp; done) | (simp [*]; done)), H', ⟨by have := HK1.out; have := HK2.out; omega⟩, ⟨by (with_reducible repeat (first | apply Kd.R_alloc | apply Kd.R_drewN | apply Kd.R_drew)); exact HO_10.out⟩, ⟨by repeat (first | (with_reducible first | exact HB.out | apply below_alloc | apply pw_below_drewN | apply below_drew1) | exact HB.out)⟩⟩
          ·rw [if_neg c24] at H
           have c24b0 : decide ((rd x10_1 x17_2) ≤ (Int.tmod (wrap64 (a1)) (wrap64 ((x9_1.size : Int) + 1)))) = false := decide_eq_false c24
           clear c24
           have H' := Aside0.mk H
           clear H
           obtain ⟨Ao26, co26, eo26⟩ := Kd.R_slice HO_10.out
           subst eo26
           have p294 : 0 ≤ (x17_2 : Int) := of_decide_eq_true (by first | (with_reducible assumption) | assumption)
           have q294 : x17_2 < (x10_1.length : Int) := of_decide_eq_true (by first | (with_reducible assumption) | assumption)
           obtain ⟨ad294, e294, hx294_0⟩ := Kd.at_int (Kd.R_reads' HO_10.out).2.2 x17_2 p294 q294
           cases e294
           replace p294 := eq_true p294
           replace q294 := eq_true q294
           go_wp2
           go_roundg k2
           case measure => have := HK1.out; have := HK2.out; omega
           case rel => exact ⟨(x15_2), (x16_2), (wrap64 (x17_2 + 1)), (by first | rfl | (simp; done) | (simp [*]; done)), (by first | rfl | (simp; done) | (simp [*]; done)), (by first | rfl | (simp; done) | (simp [*]; done)), H', ⟨by have := HK1.out; have := HK2.out; omega⟩, ⟨by (with_reducible repeat (first | apply Kd.R_alloc | apply Kd.R_drewN | apply Kd.R_drew)); exact HO_10.out⟩, ⟨by repeat (first | (with_reducible first | exact HB.out | apply below_alloc | apply pw_below_drewN | apply below_drew1) | exact HB.out)⟩⟩
         ·rw [if_neg c23] at H
          exact absurd H (by simp)
        ·rw [if_neg c22] at H
         have c22b0 : decide (x17_2 < (x10_1.length : Int)) = false := decide_eq_false c22
         clear c22
         obtain ⟨ji27, hji27⟩ : ∃ j_ : Int, (Int.tmod (wrap64 (a1)) (wrap64 ((x9_1.size : Int) + 1))) = j_ := ⟨_, rfl⟩
         replace H : (if 0 ≤ (ji27) then (if (ji27) ≤ (x9_1.size : Int) then ((frame_All.f k2 (x9_1.extract 0 ((ji27) : Int).toNat)).bind fun bt296 => (if 0 ≤ x15_2 then (if x15_2 ≤ (l0.length : Int) then ((boomerangref1_SameTexts.f k2 bt296.1 (l0.take (x15_2 : Int).toNat)).bind fun t302 => (if t302 = true then (if bt296.2.1 = x16_2 then ((boomeranglaw1_Err.f bt296.2.2).bind fun t303 => (if t303 = 0 then ((boomeranglaw1_Err.f bt296.2.2).bind fun t304 => (boomeranglaw3_FrameCut.j2 k2 l0 a2 a3 x9_1 x10_1 ((t304 == 0) != (x16_2 == (ji27))))) else ((boomeranglaw1_Err.f bt296.2.2).bind fun t305 => (if t305 = 3 then ((boomeranglaw1_Err.f bt296.2.2).bind fun t306 => (boomeranglaw3_FrameCut.j2 k2 l0 a2 a3 x9_1 x10_1 ((t306 == 0) != (x16_2 == (ji27))))) else (boomeranglaw3_FrameCut.j2 k2 l0 a2 a3 x9_1 x10_1 true))))) else (boomeranglaw3_FrameCut.j2 k2 l0 a2 a3 x9_1 x10_1 true)) else (boomeranglaw3_FrameCut.j2 k2 l0 a2 a3 x9_1 x10_1 true))) else (none)) else (none))) else (none)) else (none)) = some r := by first | (rw [hji27] at H; exact H) | (simp only [hji27] at H ⊢; exact H)
         by_cases c28 : 0 ≤ (ji27)
         ·rw [if_pos c28] at H
          have c28b0 := eq_true c28
          have c28b1 : decide (0 ≤ (ji27)) = true := decide_eq_true c28
          clear c28
          by_cases c29 : (ji27) ≤ (x9_1.size : Int)
          ·rw [if_pos c29] at H
           have c29b0 := eq_true c29
           have c29b1 : decide ((ji27) ≤ (x9_1.size : Int)) = true := decide_eq_true c29
           clear c29
           replace H := Option.bind_eq_some_iff.mp H
           obtain ⟨⟨t296, t297, t298⟩, A300, H⟩ := H
           replace H : (if 0 ≤ x15_2 then (if x15_2 ≤ (l0.length : Int) then ((boomerangref1_SameTexts.f k2 t296 (l0.take (x15_2 : Int).toNat)).bind fun t302 => (if t302 = true then (if t297 = x16_2 then ((boomeranglaw1_Err.f t298).bind fun t303 => (if t303 = 0 then ((boomeranglaw1_Err.f t298).bind fun t304 => (boomeranglaw3_FrameCut.j2 k2 l0 a2 a3 x9_1 x10_1 ((t304 == 0) != (x16_2 == (ji27))))) else ((boomeranglaw1_Err.f t298).bind fun t305 => (if t305 = 3 then ((boomeranglaw1_Err.f t298).bind fun t306 => (boomeranglaw3_FrameCut.j2 k2 l0 a2 a3 x9_1 x10_1 ((t306 == 0) != (x16_2 == (ji27))))) else (boomeranglaw3_FrameCut.j2 k2 l0 a2 a3 x9_1 x10_1 true))))) else (boomeranglaw3_FrameCut.j2 k2 l0 a2 a3 x9_1 x10_1 true)) else (boomeranglaw3_FrameCut.j2 k2 l0 a2 a3 x9_1 x10_1 true))) else (none)) else (none)) = some r := H
           have A30 := Aside0.mk A300
           clear A300
           have HC31 := Aside0.mk H
           clear H
           obtain ⟨Ao32, co32, eo32⟩ := Kd.R_slice HO_10.out
           subst eo32
           go_upto_region 24 with (first | ((with_reducible refine gate_callee (f := 23) rfl ?_); refine goesL_ (some 92) rfl rfl Try.func23 (by kernel_rfl) rfl #[.string (x9_1.extract 0 ((ji27) : Int).toNat)] rfl (by (try simp only [List.map_toArray, List.map_cons, List.map_nil]); first | done | (simp only [hji27]; rfl) | rfl | (simp only [List.length_drop, List.length_take]; rfl)) ?_; (with_reducible refine (frame_All.calls k2 (x9_1.extract 0 ((ji27) : Int).toNat) t296 t297 t298 _ A30.out).mono ?_); rintro e w33 ⟨v299, rfl, ho0, hb⟩; refine ⟨_, rfl, ?_⟩; have n0_ := Aside0.mk (Kd.R_below (by (with_reducible repeat (first | apply Kd.R_alloc | apply Kd.R_drewN | apply Kd.R_drew)); exact HO_10.out) hb); have n1_ := Aside0.mk (Kd.R_lower ho0 (below_size (by repeat (first | (with_reducible first | exact HB.out | apply below_alloc | apply pw_below_drewN | apply below_drew1) | exact HB.out)))); have n2_ := Aside0.mk (below_step (by repeat (first | (with_reducible first | exact HB.out | apply below_alloc | apply pw_below_drewN | apply below_drew1) | exact HB.out)) hb); clear HO_10; clear HB; have HO_10 := n0_; have HO300 := n1_; have HB := n2_; clear n0_ n1_ n2_; (try clear hb); (try clear hb2); (try clear hk); (try clear hi); (try clear ho0)))
           (try simp only [Act.put, List.setIfInBounds_toArray, List.set_cons_zero, List.set_cons_succ])
           go_cut [125] (fun v125 wc => ∃ (kq : Nat) (x125_30 : Bool), v125 = .bool x125_30 ∧ Aside0 (boomeranglaw3_FrameCut.j2 kq l0 a2 a3 x9_1 x10_1 x125_30 = some r) ∧ Aside0 (kq ≤ k2) ∧ Aside0 (Kd.R (Kd.int .i64) 3 wc w.heap.size (fun _ => True) (.slice Ao32 x10_1.length co32) x10_1) ∧ Aside0 (Below w.heap.size w wc))
           case first =>
            have H := HC31.out
            clear HC31
            by_cases c34 : 0 ≤ x15_2
            ·rw [if_pos c34] at H
             have c34b0 := eq_true c34
             have c34b1 : decide (0 ≤ x15_2) = true := decide_eq_true c34
             clear c34
             by_cases c35 : x15_2 ≤ (l0.length : Int)
             ·rw [if_pos c35] at H
              have c35b0 := eq_true c35
              have c35b1 : decide (x15_2 ≤ (l0.length : Int)) = true := decide_eq_true c35
              clear c35
              replace H := Option.bind_eq_some_iff.mp H
              obtain ⟨t302, A360, H⟩ := H
              replace H : (if t302 = true then (if t297 = x16_2 then ((boomeranglaw1_Err.f t298).bind fun t303 => (if t303 = 0 then ((boomeranglaw1_Err.f t298).bind fun t304 => (boomeranglaw3_FrameCut.j2 k2 l0 a2 a3 x9_1 x10_1 ((t304 == 0) != (x16_2 == (ji27))))) else ((boomeranglaw1_Err.f t298).bind fun t305 => (if t305 = 3 then ((boomeranglaw1_Err.f t298).bind fun t306 => (boomeranglaw3_FrameCut.j2 k2 l0 a2 a3 x9_1 x10_1 ((t306 == 0) != (x16_2 == (ji27))))) else (boomeranglaw3_FrameCut.j2 k2 l0 a2 a3 x9_1 x10_1 true))))) else (boomeranglaw3_FrameCut.j2 k2 l0 a2 a3 x9_1 x10_1 true)) else (boomeranglaw3_FrameCut.j2 k2 l0 a2 a3 x9_1 x10_1 true)) = some r := H
              have A36 := Aside0.mk A360
              clear A360
              by_cases c37 : t302 = true
              ·subst c37
               have H1 : (if t297 = x16_2 then ((boomeranglaw1_Err.f t298).bind fun t303 => (if t303 = 0 then ((boomeranglaw1_Err.f t298).bind fun t304 => (boomeranglaw3_FrameCut.j2 k2 l0 a2 a3 x9_1 x10_1 ((t304 == 0) != (x16_2 == (ji27))))) else ((boomeranglaw1_Err.f t298).bind fun t305 => (if t305 = 3 then ((boomeranglaw1_Err.f t298).bind fun t306 => (boomeranglaw3_FrameCut.j2 k2 l0 a2 a3 x9_1 x10_1 ((t306 == 0) != (x16_2 == (ji27))))) else (boomeranglaw3_FrameCut.j2 k2 l0 a2 a3 x9_1 x10_1 true))))) else (boomeranglaw3_FrameCut.j2 k2 l0 a2 a3 x9_1 x10_1 true)) = some r := by rw [if_pos rfl] at H; exact H
               clear H
               have H := H1
               clear H1
               by_cases c38 : t297 = x16_2
               ·rw [if_pos c38] at H
                have c38b0 : (t297 == x16_2) = true := beq_iff_eq.mpr c38
                have c38b1 : (t297 != x16_2) = false := bne_eq_false_iff_eq.mpr c38
                clear c38
                (first | rw [c38b0] | (simp only [i64_w, i32_w]; rw [c38b0]) | skip)
                replace H := Option.bind_eq_some_iff.mp H
                obtain ⟨t303, A390, H⟩ := H
                replace H : (if t303 = 0 then ((boomeranglaw1_Err.f t298).bind fun t304 => (boomeranglaw3_FrameCut.j2 k2 l0 a2 a3 x9_1 x10_1 ((t304 == 0) != (x16_2 == (ji27))))) else ((boomeranglaw1_Err.f t298).bind fun t305 => (if t305 = 3 then ((boomeranglaw1_Err.f t298).bind fun t306 => (boomeranglaw3_FrameCut.j2 k2 l0 a2 a3 x9_1 x10_1 ((t306 == 0) != (x16_2 == (ji27))))) else (boomeranglaw3_FrameCut.j2 k2 l0 a2 a3 x9_1 x10_1 true)))) = some r := H
                have A39 := Aside0.mk A390
                clear A390
                by_cases c40 : t303 = 0
                ·rw [if_pos c40] at H
                 have c40b0 : (t303 == 0) = true := beq_iff_eq.mpr c40
                 (try (have wc40b0_t302 : (t302 == 0) = true := by rw [Option.some.inj (A36.out.symm.trans A39.out)]; exact c40b0))
                 (try (have vc40b0_t302 : (t302 != 0) = false := by have h_ := wc40b0_t302; simpa using h_))
                 have c40b1 : (t303 != 0) = false := bne_eq_false_iff_eq.mpr c40
                 clear c40
                 replace H := Option.bind_eq_some_iff.mp H
                 obtain ⟨t304, A410, H⟩ := H
                 (try (have zc40b0_t304 : (t304 == 0) = true := by rw [← Option.some.inj (A39.out.symm.trans A410)]; exact c40b0))
                 (try (have yc40b0_t304 : (t304 != 0) = false := by have h_ := zc40b0_t304; simpa using h_))
                 replace H : (boomeranglaw3_FrameCut.j2 k2 l0 a2 a3 x9_1 x10_1 ((t304 == 0) != (x16_2 == (ji27)))) = some r := H
                 have A41 := Aside0.mk A410
                 clear A410
                 have H' := Aside0.mk H
                 clear H
                 obtain ⟨i042, hi042, _, hsz42, _⟩ := info_parts info9
                 obtain ⟨hcut42, hA42, hC42⟩ := print_take_of (P := Try.prog) Value.string (⟨#[]⟩ : ByteArray) 39 9 .i64 Try.underlying39 hi042 hsz42 A0 c0 l0 x15_2 (of_decide_eq_true (by first | (with_reducible assumption) | assumption)) (of_decide_eq_true (by first | (with_reducible assumption) | assumption)) HC0.out
                 have HR301 := Aside0.mk (Kd.C_of_reads (h1 := fun _ => rfl) (hA42 _ (Kd.reads_of_C HR0.out)))
                 have HC301 := Aside0.mk hC42
                 clear hA42 hC42 hi042 hsz42
                 obtain ⟨Ao43, co43, eo43⟩ := Kd.R_slice HO300.out
                 subst eo43
                 by_cases hmx : x16_2 = ji27
                 ·have hmx1 : (x16_2 == ji27) = true := by simpa using hmx
                  clear hmx
                  go_wp2_with (first | ((with_reducible refine gate_callee (f := 25) rfl ?_); refine goesL_ (some 100) rfl rfl Try.func25 (by kernel_rfl) rfl #[.slice Ao43 t296.length co43, .slice A0 (l0.take (x15_2 : Int).toNat).length c0] rfl (by (try simp only [List.map_toArray, List.map_cons, List.map_nil]); first | done | (rw [show (l0.take (x15_2 : Int).toNat).length = x15_2.toNat from (by rw [List.length_take]; have h_ : (x15_2 : Int) ≤ (l0.length : Int) := of_decide_eq_true (by first | (with_reducible assumption) | assumption); omega)] <;> rfl) | rfl | (simp only [List.length_drop, List.length_take]; rfl)) ?_; (with_reducible refine (boomerangref1_SameTexts.calls k2 _ _ t296 _ _ (l0.take (x15_2 : Int).toNat) true _ ?side1 ?side2 ?side3 ?side4 A36.out).mono ?_); (case side1 => repeat (first | exact (Kd.R_reads' HO300.out).2.2 | (with_reducible refine Kd.C_alloc ?_ _) | (with_reducible refine Kd.C_drewN ?_ _) | (with_reducible refine Kd.C_drew ?_))); (case side2 => exact (Kd.R_reads' HO300.out).2.1); (case side3 => repeat (first | exact (Kd.C_below HR301.out HB.out) | (with_reducible refine Kd.C_alloc ?_ _) | (with_reducible refine Kd.C_drewN ?_ _) | (with_reducible refine Kd.C_drew ?_))); (case side4 => exact HC301.out); rintro e w' ⟨rfl, ⟨nd, rfl⟩⟩; refine ⟨_, rfl, ?_⟩) | (go_at_call 19; (with_reducible refine (boomeranglaw1_Err.calls t298 t303 _ A39.out).mono ?_); rintro e w' ⟨rfl, ⟨nd, rfl⟩⟩) | (go_at_call 19; (with_reducible refine (boomeranglaw1_Err.calls t298 t304 _ A41.out).mono ?_); rintro e w' ⟨rfl, ⟨nd, rfl⟩⟩))
                  go_meet
                  case rel => exact ⟨_, (((t304 == 0) != (x16_2 == (ji27)))), (by first | rfl | (simp [*]; done) | (simp; done) | (simp only [← hji27] <;> (first | rfl | (simp; done) | (simp [*]; done))) | (simp [*]; done)), H', ⟨by have := HK1.out; have := HK2.out; first | omega | exact Nat.le_refl _⟩, ⟨by (with_reducible repeat (first | apply Kd.R_alloc | apply Kd.R_drewN | apply Kd.R_drew)); exact HO_10.out⟩, ⟨by repeat (first | (with_reducible first | exact HB.out | apply below_alloc | apply pw_below_drewN | apply below_drew1) | exact HB.out)⟩⟩
                 ·have hmx1 : (x16_2 == ji27) = false := by simpa using hmx
                  clear hmx
                  go_wp2_with (first | ((with_reducible refine gate_callee (f := 25) rfl ?_); refine goesL_ (some 100) rfl rfl Try.func25 (by kernel_rfl) rfl #[.slice Ao43 t296.length co43, .slice A0 (l0.take (x15_2 : Int).toNat).length c0] rfl (by (try simp only [List.map_toArray, List.map_cons, List.map_nil]); first | done | (rw [show (l0.take (x15_2 : Int).toNat).length = x15_2.toNat from (by rw [List.length_take]; have h_ : (x15_2 : Int) ≤ (l0.length : Int) := of_decide_eq_true (by first | (with_reducible assumption) | assumption); omega)] <;> rfl) | rfl | (simp only [List.length_drop, List.length_take]; rfl)) ?_; (with_reducible refine (boomerangref1_SameTexts.calls k2 _ _ t296 _ _ (l0.take (x15_2 : Int).toNat) true _ ?side1 ?side2 ?side3 ?side4 A36.out).mono ?_); (case side1 => repeat (first | exact (Kd.R_reads' HO300.out).2.2 | (with_reducible refine Kd.C_alloc ?_ _) | (with_reducible refine Kd.C_drewN ?_ _) | (with_reducible refine Kd.C_drew ?_))); (case side2 => exact (Kd.R_reads' HO300.out).2.1); (case side3 => repeat (first | exact (Kd.C_below HR301.out HB.out) | (with_reducible refine Kd.C_alloc ?_ _) | (with_reducible refine Kd.C_drewN ?_ _) | (with_reducible refine Kd.C_drew ?_))); (case side4 => exact HC301.out); rintro e w' ⟨rfl, ⟨nd, rfl⟩⟩; refine ⟨_, rfl, ?_⟩) | (go_at_call 19; (with_reducible refine (boomeranglaw1_Err.calls t298 t303 _ A39.out).mono ?_); rintro e w' ⟨rfl, ⟨nd, rfl⟩⟩) | (go_at_call 19; (with_reducible refine (boomeranglaw1_Err.calls t298 t304 _ A41.out).mono ?_); rintro e w' ⟨rfl, ⟨nd, rfl⟩⟩))
                  go_meet
                  case rel => exact ⟨_, (((t304 == 0) != (x16_2 == (ji27)))), (by first | rfl | (simp [*]; done) | (simp; done) | (simp only [← hji27] <;> (first | rfl | (simp; done) | (simp [*]; done))) | (simp [*]; done)), H', ⟨by have := HK1.out; have := HK2.out; first | omega | exact Nat.le_refl _⟩, ⟨by (with_reducible repeat (first | apply Kd.R_alloc | apply Kd.R_drewN | apply Kd.R_drew)); exact HO_10.out⟩, ⟨by repeat (first | (with_reducible first | exact HB.out | apply below_alloc | apply pw_below_drewN | apply below_drew1) | exact HB.out)⟩⟩
                ·rw [if_neg c40] at H
                 have c40b0 : (t303 == 0) = false := beq_eq_false_iff_ne.mpr c40
                 (try (have wc40b0_t302 : (t302 == 0) = false := by rw [Option.some.inj (A36.out.symm.trans A39.out)]; exact c40b0))
                 (try (have vc40b0_t302 : (t302 != 0) = true := by have h_ := wc40b0_t302; simpa using h_))
                 have c40b1 : (t303 != 0) = true := bne_iff_ne.mpr c40
                 replace H := Option.bind_eq_some_iff.mp H
                 obtain ⟨t305, A440, H⟩ := H
                 (try (have zc40b0_t305 : (t305 == 0) = false := by rw [← Option.some.inj (A39.out.symm.trans A440)]; exact c40b0))
                 (try (have yc40b0_t305 : (t305 != 0) = true := by have h_ := zc40b0_t305; simpa using h_))
                 replace H : (if t305 = 3 then ((boomeranglaw1_Err.f t298).bind fun t306 => (boomeranglaw3_FrameCut.j2 k2 l0 a2 a3 x9_1 x10_1 ((t306 == 0) != (x16_2 == (ji27))))) else (boomeranglaw3_FrameCut.j2 k2 l0 a2 a3 x9_1 x10_1 true)) = some r := H
                 have A44 := Aside0.mk A440
                 clear A440
                 by_cases c45 : t305 = 3
                 ·rw [if_pos c45] at H
                  have c45b0 : (t305 == 3) = true := beq_iff_eq.mpr c45
                  (try (have wc45b0_t302 : (t302 == 3) = true := by rw [Option.some.inj (A36.out.symm.trans A44.out)]; exact c45b0))
                  (try (have vc45b0_t302 : (t302 != 3) = false := by have h_ := wc45b0_t302; simpa using h_))
                  (try (have wc45b0_t303 : (t303 == 3) = true := by rw [Option.some.inj (A39.out.symm.trans A44.out)]; exact c45b0))
                  (try (have vc45b0_t303 : (t303 != 3) = false := by have h_ := wc45b0_t303; simpa using h_))
                  have c45b1 : (t305 != 3) = false := bne_eq_false_iff_eq.mpr c45
                  clear c45
                  replace H := Option.bind_eq_some_iff.mp H
                  obtain ⟨t306, A460, H⟩ := H
                  (try (have zc40b0_t306 : (t306 == 0) = false := by rw [← Option.some.inj (A39.out.symm.trans A460)]; exact c40b0))
                  (try (have yc40b0_t306 : (t306 != 0) = true := by have h_ := zc40b0_t306; simpa using h_))
                  (try (have zc45b0_t306 : (t306 == 3) = true := by rw [← Option.some.inj (A44.out.symm.trans A460)]; exact c45b0))
                  (try (have yc45b0_t306 : (t306 != 3) = false := by have h_ := zc45b0_t306; simpa using h_))
                  replace H : (boomeranglaw3_FrameCut.j2 k2 l0 a2 a3 x9_1 x10_1 ((t306 == 0) != (x16_2 == (ji27)))) = some r := H
                  have A46 := Aside0.mk A460
                  clear A460
                  have H' := Aside0.mk H
                  clear H
                  obtain ⟨i047, hi047, _, hsz47, _⟩ := info_parts info9
                  obtain ⟨hcut47, hA47, hC47⟩ := print_take_of (P := Try.prog) Value.string (⟨#[]⟩ : ByteArray) 39 9 .i64 Try.underlying39 hi047 hsz47 A0 c0 l0 x15_2 (of_decide_eq_true (by first | (with_reducible assumption) | assumption)) (of_decide_eq_true (by first | (with_reducible assumption) | assumption)) HC0.out
                  have HR301 := Aside0.mk (Kd.C_of_reads (h1 := fun _ => rfl) (hA47 _ (Kd.reads_of_C HR0.out)))
                  have HC301 := Aside0.mk hC47
                  clear hA47 hC47 hi047 hsz47
                  obtain ⟨Ao48, co48, eo48⟩ := Kd.R_slice HO300.out
                  subst eo48
                  by_cases hmx : x16_2 = ji27
                  ·have hmx1 : (x16_2 == ji27) = true := by simpa using hmx
                   clear hmx
                   go_wp2_with (first | ((with_reducible refine gate_callee (f := 25) rfl ?_); refine goesL_ (some 100) rfl rfl Try.func25 (by kernel_rfl) rfl #[.slice Ao48 t296.length co48, .slice A0 (l0.take (x15_2 : Int).toNat).length c0] rfl (by (try simp only [List.map_toArray, List.map_cons, List.map_nil]); first | done | (rw [show (l0.take (x15_2 : Int).toNat).length = x15_2.toNat from (by rw [List.length_take]; have h_ : (x15_2 : Int) ≤ (l0.length : Int) := of_decide_eq_true (by first | (with_reducible assumption) | assumption); omega)] <;> rfl) | rfl | (simp only [List.length_drop, List.length_take]; rfl)) ?_; (with_reducible refine (boomerangref1_SameTexts.calls k2 _ _ t296 _ _ (l0.take (x15_2 : Int).toNat) true _ ?side1 ?side2 ?side3 ?side4 A36.out).mono ?_); (case side1 => repeat (first | exact (Kd.R_reads' HO300.out).2.2 | (with_reducible refine Kd.C_alloc ?_ _) | (with_reducible refine Kd.C_drewN ?_ _) | (with_reducible refine Kd.C_drew ?_))); (case side2 => exact (Kd.R_reads' HO300.out).2.1); (case side3 => repeat (first | exact (Kd.C_below HR301.out HB.out) | (with_reducible refine Kd.C_alloc ?_ _) | (with_reducible refine Kd.C_drewN ?_ _) | (with_reducible refine Kd.C_drew ?_))); (case side4 => exact HC301.out); rintro e w' ⟨rfl, ⟨nd, rfl⟩⟩; refine ⟨_, rfl, ?_⟩) | (go_at_call 19; (with_reducible refine (boomeranglaw1_Err.calls t298 t303 _ A39.out).mono ?_); rintro e w' ⟨rfl, ⟨nd, rfl⟩⟩) | (go_at_call 19; (with_reducible refine (boomeranglaw1_Err.calls t298 t305 _ A44.out).mono ?_); rintro e w' ⟨rfl, ⟨nd, rfl⟩⟩) | (go_at_call 19; (with_reducible refine (boomeranglaw1_Err.calls t298 t306 _ A46.out).mono ?_); rintro e w' ⟨rfl, ⟨nd, rfl⟩⟩))
                   go_meet
                   case rel => exact ⟨_, (((t306 == 0) != (x16_2 == (ji27)))), (by first | rfl | (simp [*]; done) | (simp; done) | (simp only [← hji27] <;> (first | rfl | (simp; done) | (simp [*]; done))) | (simp [*]; done)), H', ⟨by have := HK1.out; have := HK2.out; first | omega | exact Nat.le_refl _⟩, ⟨by (with_reducible repeat (first | apply Kd.R_alloc | apply Kd.R_drewN | apply Kd.R_drew)); exact HO_10.out⟩, ⟨by repeat (first | (with_reducible first | exact HB.out | apply below_alloc | apply pw_below_drewN | apply below_drew1) | exact HB.out)⟩⟩
                  ·have hmx1 : (x16_2 == ji27) = false := by simpa using hmx
                   clear hmx
                   go_wp2_with (first | ((with_reducible refine gate_callee (f := 25) rfl ?_); refine goesL_ (some 100) rfl rfl Try.func25 (by kernel_rfl) rfl #[.slice Ao48 t296.length co48, .slice A0 (l0.take (x15_2 : Int).toNat).length c0] rfl (by (try simp only [List.map_toArray, List.map_cons, List.map_nil]); first | done | (rw [show (l0.take (x15_2 : Int).toNat).length = x15_2.toNat from (by rw [List.length_take]; have h_ : (x15_2 : Int) ≤ (l0.length : Int) := of_decide_eq_true (by first | (with_reducible assumption) | assumption); omega)] <;> rfl) | rfl | (simp only [List.length_drop, List.length_take]; rfl)) ?_; (with_reducible refine (boomerangref1_SameTexts.calls k2 _ _ t296 _ _ (l0.take (x15_2 : Int).toNat) true _ ?side1 ?side2 ?side3 ?side4 A36.out).mono ?_); (case side1 => repeat (first | exact (Kd.R_reads' HO300.out).2.2 | (with_reducible refine Kd.C_alloc ?_ _) | (with_reducible refine Kd.C_drewN ?_ _) | (with_reducible refine Kd.C_drew ?_))); (case side2 => exact (Kd.R_reads' HO300.out).2.1); (case side3 => repeat (first | exact (Kd.C_below HR301.out HB.out) | (with_reducible refine Kd.C_alloc ?_ _) | (with_reducible refine Kd.C_drewN ?_ _) | (with_reducible refine Kd.C_drew ?_))); (case side4 => exact HC301.out); rintro e w' ⟨rfl, ⟨nd, rfl⟩⟩; refine ⟨_, rfl, ?_⟩) | (go_at_call 19; (with_reducible refine (boomeranglaw1_Err.calls t298 t303 _ A39.out).mono ?_); rintro e w' ⟨rfl, ⟨nd, rfl⟩⟩) | (go_at_call 19; (with_reducible refine (boomeranglaw1_Err.calls t298 t305 _ A44.out).mono ?_); rintro e w' ⟨rfl, ⟨nd, rfl⟩⟩) | (go_at_call 19; (with_reducible refine (boomeranglaw1_Err.calls t298 t306 _ A46.out).mono ?_); rintro e w' ⟨rfl, ⟨nd, rfl⟩⟩))
                   go_meet
                   case rel => exact ⟨_, (((t306 == 0) != (x16_2 == (ji27)))), (by first | rfl | (simp [*]; done) | (simp; done) | (simp only [← hji27] <;> (first | rfl | (simp; done) | (simp [*]; done))) | (simp [*]; done)), H', ⟨by have := HK1.out; have := HK2.out; first | omega | exact Nat.le_refl _⟩, ⟨by (with_reducible repeat (first | apply Kd.R_alloc | apply Kd.R_drewN | apply Kd.R_drew)); exact HO_10.out⟩, ⟨by repeat (first | (with_reducible first | exact HB.out | apply below_alloc | apply pw_below_drewN | apply below_drew1) | exact HB.out)⟩⟩
                 ·rw [if_neg c45] at H
                  have c45b0 : (t305 == 3) = false := beq_eq_false_iff_ne.mpr c45
                  (try (have wc45b0_t302 : (t302 == 3) = false := by rw [Option.some.inj (A36.out.symm.trans A44.out)]; exact c45b0))
                  (try (have vc45b0_t302 : (t302 != 3) = true := by have h_ := wc45b0_t302; simpa using h_))
                  (try (have wc45b0_t303 : (t303 == 3) = false := by rw [Option.some.inj (A39.out.symm.trans A44.out)]; exact c45b0))
                  (try (have vc45b0_t303 : (t303 != 3) = true := by have h_ := wc45b0_t303; simpa using h_))
                  have c45b1 : (t305 != 3) = true := bne_iff_ne.mpr c45
                  have H' := Aside0.mk H
                  clear H
                  obtain ⟨i049, hi049, _, hsz49, _⟩ := info_parts info9
                  obtain ⟨hcut49, hA49, hC49⟩ := print_take_of (P := Try.prog) Value.string (⟨#[]⟩ : ByteArray) 39 9 .i64 Try.underlying39 hi049 hsz49 A0 c0 l0 x15_2 (of_decide_eq_true (by first | (with_reducible assumption) | assumption)) (of_decide_eq_true (by first | (with_reducible assumption) | assumption)) HC0.out
                  have HR301 := Aside0.mk (Kd.C_of_reads (h1 := fun _ => rfl) (hA49 _ (Kd.reads_of_C HR0.out)))
                  have HC301 := Aside0.mk hC49
                  clear hA49 hC49 hi049 hsz49
                  obtain ⟨Ao50, co50, eo50⟩ := Kd.R_slice HO300.out
                  subst eo50
                  go_wp2_with (first | ((with_reducible refine gate_callee (f := 25) rfl ?_); refine goesL_ (some 100) rfl rfl Try.func25 (by kernel_rfl) rfl #[.slice Ao50 t296.length co50, .slice A0 (l0.take (x15_2 : Int).toNat).length c0] rfl (by (try simp only [List.map_toArray, List.map_cons, List.map_nil]); first | done | (rw [show (l0.take (x15_2 : Int).toNat).length = x15_2.toNat from (by rw [List.length_take]; have h_ : (x15_2 : Int) ≤ (l0.length : Int) := of_decide_eq_true (by first | (with_reducible assumption) | assumption); omega)] <;> rfl) | rfl | (simp only [List.length_drop, List.length_take]; rfl)) ?_; (with_reducible refine (boomerangref1_SameTexts.calls k2 _ _ t296 _ _ (l0.take (x15_2 : Int).toNat) true _ ?side1 ?side2 ?side3 ?side4 A36.out).mono ?_); (case side1 => repeat (first | exact (Kd.R_reads' HO300.out).2.2 | (with_reducible refine Kd.C_alloc ?_ _) | (with_reducible refine Kd.C_drewN ?_ _) | (with_reducible refine Kd.C_drew ?_))); (case side2 => exact (Kd.R_reads' HO300.out).2.1); (case side3 => repeat (first | exact (Kd.C_below HR301.out HB.out) | (with_reducible refine Kd.C_alloc ?_ _) | (with_reducible refine Kd.C_drewN ?_ _) | (with_reducible refine Kd.C_drew ?_))); (case side4 => exact HC301.out); rintro e w' ⟨rfl, ⟨nd, rfl⟩⟩; refine ⟨_, rfl, ?_⟩) | (go_at_call 19; (with_reducible refine (boomeranglaw1_Err.calls t298 t303 _ A39.out).mono ?_); rintro e w' ⟨rfl, ⟨nd, rfl⟩⟩) | (go_at_call 19; (with_reducible refine (boomeranglaw1_Err.calls t298 t305 _ A44.out).mono ?_); rintro e w' ⟨rfl, ⟨nd, rfl⟩⟩))
                  go_meet
                  case rel => exact ⟨_, (true), (by first | rfl | (simp; done) | (simp [*]; done)), H', ⟨by have := HK1.out; have := HK2.out; first | omega | exact Nat.le_refl _⟩, ⟨by (with_reducible repeat (first | apply Kd.R_alloc | apply Kd.R_drewN | apply Kd.R_drew)); exact HO_10.out⟩, ⟨by repeat (first | (with_reducible first | exact HB.out | apply below_alloc | apply pw_below_drewN | apply below_drew1) | exact HB.out)⟩⟩
               ·rw [if_neg c38] at H
                have c38b0 : (t297 == x16_2) = false := beq_eq_false_iff_ne.mpr c38
                have c38b1 : (t297 != x16_2) = true := bne_iff_ne.mpr c38
                (first | rw [c38b0] | (simp only [i64_w, i32_w]; rw [c38b0]) | skip)
                have H' := Aside0.mk H
                clear H
                obtain ⟨i051, hi051, _, hsz51, _⟩ := info_parts info9
                obtain ⟨hcut51, hA51, hC51⟩ := print_take_of (P := Try.prog) Value.string (⟨#[]⟩ : ByteArray) 39 9 .i64 Try.underlying39 hi051 hsz51 A0 c0 l0 x15_2 (of_decide_eq_true (by first | (with_reducible assumption) | assumption)) (of_decide_eq_true (by first | (with_reducible assumption) | assumption)) HC0.out
                have HR301 := Aside0.mk (Kd.C_of_reads (h1 := fun _ => rfl) (hA51 _ (Kd.reads_of_C HR0.out)))
                have HC301 := Aside0.mk hC51
                clear hA51 hC51 hi051 hsz51
                obtain ⟨Ao52, co52, eo52⟩ := Kd.R_slice HO300.out
                subst eo52
                go_wp2_with (first | ((with_reducible refine gate_callee (f := 25) rfl ?_); refine goesL_ (some 100) rfl rfl Try.func25 (by kernel_rfl) rfl #[.slice Ao52 t296.length co52, .slice A0 (l0.take (x15_2 : Int).toNat).length c0] rfl (by (try simp only [List.map_toArray, List.map_cons, List.map_nil]); first | done | (rw [show (l0.take (x15_2 : Int).toNat).length = x15_2.toNat from (by rw [List.length_take]; have h_ : (x15_2 : Int) ≤ (l0.length : Int) := of_decide_eq_true (by first | (with_reducible assumption) | assumption); omega)] <;> rfl) | rfl | (simp only [List.length_drop, List.length_take]; rfl)) ?_; (with_reducible refine (boomerangref1_SameTexts.calls k2 _ _ t296 _ _ (l0.take (x15_2 : Int).toNat) true _ ?side1 ?side2 ?side3 ?side4 A36.out).mono ?_); (case side1 => repeat (first | exact (Kd.R_reads' HO300.out).2.2 | (with_reducible refine Kd.C_alloc ?_ _) | (with_reducible refine Kd.C_drewN ?_ _) | (with_reducible refine Kd.C_drew ?_))); (case side2 => exact (Kd.R_reads' HO300.out).2.1); (case side3 => repeat (first | exact (Kd.C_below HR301.out HB.out) | (with_reducible refine Kd.C_alloc ?_ _) | (with_reducible refine Kd.C_drewN ?_ _) | (with_reducible refine Kd.C_drew ?_))); (case side4 => exact HC301.out); rintro e w' ⟨rfl, ⟨nd, rfl⟩⟩; refine ⟨_, rfl, ?_⟩))
                go_meet
                case rel => exact ⟨_, (true), (by first | rfl | (simp; done) | (simp [*]; done)), H', ⟨by have := HK1.out; have := HK2.out; first | omega | exact Nat.le_refl _⟩, ⟨by (with_reducible repeat (first | apply Kd.R_alloc | apply Kd.R_drewN | apply Kd.R_drew)); exact HO_10.out⟩, ⟨by repeat (first | (with_reducible first | exact HB.out | apply below_alloc | apply pw_below_drewN | apply below_drew1) | exact HB.out)⟩⟩
              ·replace c37 := Bool.eq_false_iff.mpr c37
               subst c37
               have H1 : (boomeranglaw3_FrameCut.j2 k2 l0 a2 a3 x9_1 x10_1 true) = some r := by rw [if_neg (show ¬ (false = true) by decide)] at H; exact H
               clear H
               have H := H1
               clear H1
               have H' := Aside0.mk H
               clear H
               obtain ⟨i053, hi053, _, hsz53, _⟩ := info_parts info9
               obtain ⟨hcut53, hA53, hC53⟩ := print_take_of (P := Try.prog) Value.string (⟨#[]⟩ : ByteArray) 39 9 .i64 Try.underlying39 hi053 hsz53 A0 c0 l0 x15_2 (of_decide_eq_true (by first | (with_reducible assumption) | assumption)) (of_decide_eq_true (by first | (with_reducible assumption) | assumption)) HC0.out
               have HR301 := Aside0.mk (Kd.C_of_reads (h1 := fun _ => rfl) (hA53 _ (Kd.reads_of_C HR0.out)))
               have HC301 := Aside0.mk hC53
               clear hA53 hC53 hi053 hsz53
               obtain ⟨Ao54, co54, eo54⟩ := Kd.R_slice HO300.out
               subst eo54
               go_wp2_with (first | ((with_reducible refine gate_callee (f := 25) rfl ?_); refine goesL_ (some 100) rfl rfl Try.func25 (by kernel_rfl) rfl #[.slice Ao54 t296.length co54, .slice A0 (l0.take (x15_2 : Int).toNat).length c0] rfl (by (try simp only [List.map_toArray, List.map_cons, List.map_nil]); first | done | (rw [show (l0.take (x15_2 : Int).toNat).length = x15_2.toNat from (by rw [List.length_take]; have h_ : (x15_2 : Int) ≤ (l0.length : Int) := of_decide_eq_true (by first | (with_reducible assumption) | assumption); omega)] <;> rfl) | rfl | (simp only [List.length_drop, List.length_take]; rfl)) ?_; (with_reducible refine (boomerangref1_SameTexts.calls k2 _ _ t296 _ _ (l0.take (x15_2 : Int).toNat) false _ ?side1 ?side2 ?side3 ?side4 A36.out).mono ?_); (case side1 => repeat (first | exact (Kd.R_reads' HO300.out).2.2 | (with_reducible refine Kd.C_alloc ?_ _) | (with_reducible refine Kd.C_drewN ?_ _) | (with_reducible refine Kd.C_drew ?_))); (case side2 => exact (Kd.R_reads' HO300.out).2.1); (case side3 => repeat (first | exact (Kd.C_below HR301.out HB.out) | (with_reducible refine Kd.C_alloc ?_ _) | (with_reducible refine Kd.C_drewN ?_ _) | (with_reducible refine Kd.C_drew ?_))); (case side4 => exact HC301.out); rintro e w' ⟨rfl, ⟨nd, rfl⟩⟩; refine ⟨_, rfl, ?_⟩))
               go_meet
               case rel => exact ⟨_, (true), (by first | rfl | (simp; done) | (simp [*]; done)), H', ⟨by have := HK1.out; have := HK2.out; first | omega | exact Nat.le_refl _⟩, ⟨by (with_reducible repeat (first | apply Kd.R_alloc | apply Kd.R_drewN | apply Kd.R_drew)); exact HO_10.out⟩, ⟨by repeat (first | (with_reducible first | exact HB.out | apply below_alloc | apply pw_below_drewN | apply below_drew1) | exact HB.out)⟩⟩
             ·rw [if_neg c35] at H
              exact absurd H (by simp)
            ·rw [if_neg c34] at H
             exact absurd H (by simp)
           case rest =>
            clear HC31
            try clear c1
            try clear c2
            try clear p2
            try clear q2
            try clear hx2
            try clear c3
            try clear c4
            try clear c5
            try clear c5b0
            try clear c5b1
            try clear p6
            try clear c8
            try clear c8b0
            try clear c9
            try clear c9b0
            try clear c10
            try clear c10b0
            try clear c10b1
            try clear c15
            try clear c15b0
            try clear c15b1
            try clear c16
            try clear c16b0
            try clear c16b1
            try clear c16b2
            try clear c17
            try clear c19
            try clear c20
            try clear c21
            try clear c21b0
            try clear c21b1
            try clear c22
            try clear c22b0
            try clear c23
            try clear c23b0
            try clear c24
            try clear c24b0
            try clear c25
            try clear c28
            try clear c28b0
            try clear c28b1
            try clear p28
            try clear q28
            try clear hx28
            try clear c29
            try clear c29b0
            try clear c29b1
            try clear p29
            try clear q29
            try clear hx29
            try clear c34
            try clear c34b0
            try clear c34b1
            try clear c35
            try clear c35b0
            try clear c35b1
            try clear c37
            try clear c38
            try clear c38b0
            try clear c38b1
            try clear c40
            try clear c40b0
            try clear c40b1
            try clear c45
            try clear c45b0
            try clear c45b1
            try clear hx285_0
            try clear hx287_0
            try clear hx294_0
            try clear hx295_0
            try clear p2
            try clear p285
            try clear p287
            try clear p294
            try clear p295
            try clear p6
            try clear q2
            try clear q285
            try clear q287
            try clear q294
            try clear q295
            obtain ⟨kq, x125_30, rfl, HA, HJ30, HO_10, HB⟩ := hcut
            cases kq with
            | zero => exact absurd HA.out (by simp [boomeranglaw3_FrameCut.j2])
            | succ kj30 =>
             have H := HA.out
             clear HA
             simp only [boomeranglaw3_FrameCut.j2] at H
             by_cases c55 : x125_30 = true
             ·subst c55
              have H1 : (some false) = some r := by rw [if_pos rfl] at H; exact H
              clear H
              have H := H1
              clear H1
              obtain rfl := Option.some.inj H
              go_wp2
              go_ret
              exact ⟨by first | rfl | (simp [errW_none, errW_some] <;> rfl) | (simp only [← hji27]; first | rfl | (simp [errW_none, errW_some] <;> rfl)) | (simp [*, errW_none, errW_some] <;> rfl), by repeat (first | (with_reducible first | exact HB.out | apply below_alloc | apply pw_below_drewN | apply below_drew1) | exact HB.out)⟩
             ·replace c55 := Bool.eq_false_iff.mpr c55
              subst c55
              have H1 : (if (x9_1.size : Int) = 0 then ((boomeranglaw3_awake.f kj30).bind fun t307 => (some t307)) else (if x9_1.size ≤ 9223372036854775807 then ((some (bytesOf x9_1 : List Int)).bind fun y308 => (if (y308.length : Int) = 0 then (none) else (if 0 ≤ (Int.tmod (wrap64 (a2)) (y308.length : Int)) then (if (Int.tmod (wrap64 (a2)) (y308.length : Int)) < (y308.length : Int) then (boomeranglaw3_FrameCut.l2 kj30 l0 a3 x10_1 (y308.set ((Int.tmod (wrap64 (a2)) (y308.length : Int)) : Int).toNat (Go.bits .xor .u8 (rd y308 (Int.tmod (wrap64 (a2)) (y308.length : Int))) a3)) (Int.tmod (wrap64 (a2)) (y308.length : Int)) 0 0) else (none)) else (none)))) else (none))) = some r := by rw [if_neg (show ¬ (false = true) by decide)] at H; exact H
              clear H
              have H := H1
              clear H1
              by_cases c56 : (x9_1.size : Int) = 0
              ·rw [if_pos c56] at H
               have c56b0 : ((x9_1.size : Int) == 0) = true := beq_iff_eq.mpr c56
               have c56b1 : ((x9_1.size : Int) != 0) = false := bne_eq_false_iff_eq.mpr c56
               clear c56
               replace H := Option.bind_eq_some_iff.mp H
               obtain ⟨t307, A570, H⟩ := H
               replace H : (some t307) = some r := H
               have A57 := Aside0.mk A570
               clear A570
               obtain rfl := Option.some.inj H
               go_wp2_with (first | ((with_reducible refine gate_callee (f := 20) rfl ?_); refine goesL_ (some 129) rfl rfl Try.func20 (by kernel_rfl) rfl #[] rfl (by (try simp only [List.map_toArray, List.map_cons, List.map_nil]); first | done | rfl | (simp only [List.length_drop, List.length_take]; rfl)) ?_; (with_reducible refine (boomeranglaw3_awake.calls kj30  t307 _ A57.out).mono ?_); rintro e w58 ⟨rfl, hb⟩; refine ⟨_, rfl, ?_⟩; have n0_ := Aside0.mk (Kd.R_below (by (with_reducible repeat (first | apply Kd.R_alloc | apply Kd.R_drewN | apply Kd.R_drew)); exact HO_10.out) hb); have n1_ := Aside0.mk (below_step (by repeat (first | (with_reducible first | exact HB.out | apply below_alloc | apply pw_below_drewN | apply below_drew1) | exact HB.out)) hb); clear HO_10; clear HB; have HO_10 := n0_; have HB := n1_; clear n0_ n1_; (try clear hb); (try clear hb2); (try clear hk); (try clear hi)))
               go_ret
               exact ⟨by first | rfl | (simp [errW_none, errW_some] <;> rfl) | (simp only [← hji27]; first | rfl | (simp [errW_none, errW_some] <;> rfl)) | (simp [*, errW_none, errW_some] <;> rfl), by repeat (first | (with_reducible first | exact HB.out | apply below_alloc | apply pw_below_drewN | apply below_drew1) | exact HB.out)⟩
              ·rw [if_neg c56] at H
               have c56b0 : ((x9_1.size : Int) == 0) = false := beq_eq_false_iff_ne.mpr c56
               have c56b1 : ((x9_1.size : Int) != 0) = true := bne_iff_ne.mpr c56
               by_cases c59 : x9_1.size ≤ 9223372036854775807
               ·rw [if_pos c59] at H
                have c59b0 := eq_true c59
                have c59b1 : decide (x9_1.size ≤ 9223372036854775807) = true := decide_eq_true c59
                try have c59b2 : (9223372036854775807 < x9_1.size) = False := eq_false (Nat.not_lt.2 c59)
                clear c59
                obtain ⟨y308, hy308⟩ : ∃ y_ : List Int, y_ = (bytesOf x9_1) := ⟨_, rfl⟩
                replace H : (if (y308.length : Int) = 0 then (none) else (if 0 ≤ (Int.tmod (wrap64 (a2)) (y308.length : Int)) then (if (Int.tmod (wrap64 (a2)) (y308.length : Int)) < (y308.length : Int) then (boomeranglaw3_FrameCut.l2 kj30 l0 a3 x10_1 (y308.set ((Int.tmod (wrap64 (a2)) (y308.length : Int)) : Int).toNat (Go.bits .xor .u8 (rd y308 (Int.tmod (wrap64 (a2)) (y308.length : Int))) a3)) (Int.tmod (wrap64 (a2)) (y308.length : Int)) 0 0) else (none)) else (none))) = some r := by first | (rw [hy308]; with_reducible exact H) | (have H2_ := (Option.bind_some _ _).symm.trans H; rw [hy308]; with_reducible exact H2_) | (have H2_ := (Option.bind_some _ _).symm.trans H; with_reducible exact H2_) | with_reducible exact H | (rw [hy308]; exact H) | exact H
                have Ny308 := Aside0.mk hy308
                clear hy308
                by_cases c60 : (y308.length : Int) = 0
                ·rw [if_pos c60] at H
                 exact absurd H (by simp)
                ·rw [if_neg c60] at H
                 have c60b0 : ((y308.length : Int) == 0) = false := beq_eq_false_iff_ne.mpr c60
                 have c60b1 : ((y308.length : Int) != 0) = true := bne_iff_ne.mpr c60
                 have c60b2 : ¬ (y308 = []) := fun h_ => c60 (by rw [h_]; rfl)
                 obtain ⟨ji61, hji61⟩ : ∃ j_ : Int, (Int.tmod (wrap64 (a2)) (y308.length : Int)) = j_ := ⟨_, rfl⟩
                 replace H : (if 0 ≤ (ji61) then (if (ji61) < (y308.length : Int) then (boomeranglaw3_FrameCut.l2 kj30 l0 a3 x10_1 (y308.set ((ji61) : Int).toNat (Go.bits .xor .u8 (rd y308 (ji61)) a3)) ji61 0 0) else (none)) else (none)) = some r := by first | (rw [hji61] at H; exact H) | (simp only [hji61] at H ⊢; exact H)
                 by_cases c62 : 0 ≤ (ji61)
                 ·rw [if_pos c62] at H
                  have c62b0 : decide (0 ≤ (ji61)) = true := decide_eq_true c62
                  clear c62
                  by_cases c63 : (ji61) < (y308.length : Int)
                  ·rw [if_pos c63] at H
                   have c63b0 : decide ((ji61) < (y308.length : Int)) = true := decide_eq_true c63
                   clear c63
                   obtain ⟨y312, hy312⟩ : ∃ y_ : List Int, y_ = (y308.set ((ji61) : Int).toNat (Go.bits .xor .u8 (rd y308 (ji61)) a3)) := ⟨_, rfl⟩
                   replace H : (boomeranglaw3_FrameCut.l2 kj30 l0 a3 x10_1 y312 ji61 0 0) = some r := by first | (rw [hy312]; with_reducible exact H) | (have H2_ := (Option.bind_some _ _).symm.trans H; rw [hy312]; with_reducible exact H2_) | (have H2_ := (Option.bind_some _ _).symm.trans H; with_reducible exact H2_) | with_reducible exact H | (rw [hy312]; exact H) | exact H
                   have Ny312 := Aside0.mk hy312
                   clear hy312
                   have H' := Aside0.mk H
                   clear H
                   go_wp2_with (first | ((with_reducible refine gate_dst (N := 131) rfl ?_); refine Kd.B_conv _ 5 rfl (N := 131) rfl 9 22 _ rfl x9_1 rfl Try.underlying9 Try.underlying22 Try.underlying5 (ok := fun _ => True) trivial (of_decide_eq_true (by first | (with_reducible assumption) | assumption)) (Below.refl _ _) (Nat.le_refl _) ?_; intro v309 w65 ho66 hb hg_ hnew_; clear hg_ hnew_; (first | rw [← Ny308.out] at ho66 | (simp only [Int.reduceToNat] at ho66; rw [← Ny308.out] at ho66)); have n0_ := Aside0.mk (Kd.R_below (by (with_reducible repeat (first | apply Kd.R_alloc | apply Kd.R_drewN | apply Kd.R_drew)); exact HO_10.out) hb); have n1_ := Aside0.mk (Kd.B_lower ho66 (below_size (by repeat (first | (with_reducible first | exact HB.out | apply below_alloc | apply pw_below_drewN | apply below_drew1) | exact HB.out)))); have n2_ := Aside0.mk (below_step (by repeat (first | (with_reducible first | exact HB.out | apply below_alloc | apply pw_below_drewN | apply below_drew1) | exact HB.out)) hb); clear HO_10; clear HB; have HO_10 := n0_; have HO310 := n1_; have HB := n2_; clear n0_ n1_ n2_; clear hb ho66; obtain ⟨Ao67, co67, eo67⟩ := Kd.B_slice HO310.out; subst eo67; have p311 : 0 ≤ ((ji61) : Int) := of_decide_eq_true (by first | (with_reducible assumption) | assumption); have q311 : (ji61) < (y308.length : Int) := of_decide_eq_true (by first | (with_reducible assumption) | assumption); obtain ⟨ad311, e311, hx311_0⟩ := Kd.at_int (Kd.B_reads' HO310.out).2.2 (ji61) p311 q311; cases e311; replace p311 := eq_true p311; replace q311 := eq_true q311; have p64 : 0 ≤ ((ji61) : Int) := of_decide_eq_true (by first | (with_reducible assumption) | assumption); have q64 : ((ji61) : Int) < ((y308.length : Int) : Int) := of_decide_eq_true (by first | (with_reducible assumption) | assumption); obtain ⟨go64, co64, eo64, gb64, gl64, cl64, HG64⟩ := Kd.B_form HO310.out (by omega); (first | cases eo64 | (injection eo64 with ea_ en_ ec_; (first | subst ea_ | (injection ea_ with ea_; subst ea_)); subst ec_; clear en_)); have GB64 := Aside0.mk gb64; have GG64 := Aside0.mk HG64; clear gb64 gl64 HG64; (first | simp only [add_plain] at hx311_0 | skip); obtain ⟨hx64_0, hf64_0⟩ := Kd.B_celln 0 HO310.out ((ji61) : Int) p64 q64; replace p64 := eq_true p64; replace q64 := eq_true q64; obtain ⟨hy68_, hz68_⟩ := Kd.B_celln 0 HO310.out ((ji61) : Int) (of_decide_eq_true (by first | (with_reducible assumption) | assumption)) (of_decide_eq_true (by first | (with_reducible assumption) | assumption)); have HP68 := Kd.B_putg HO310.out ((ji61) : Int) (Go.bits .xor .u8 (rd y308 (ji61)) a3)) | ((with_reducible refine gate_store (t := 5) (p := 143) rfl ?_); refine store_event (t := 5) (p := 143) (v := ?vo_w69) (w1 := (w65.setCell ⟨go64, ((ji61) : Int).toNat, none⟩ (.int .u8 (Go.bits .xor .u8 (rd y308 (ji61)) a3)))) ?hg ?ho ?hn ?hr ?_; (case ho => rfl); (case hg => rfl); (case hn => rfl); (case hr => first | (go_simp; done) | (go_simp; rfl)); intro w69 hw; have hg : w65.grownBy w69 (some go64) := (by rw [hw]; exact HP68.2); have hp_ : Kd.B (Kd.int .u8) 5 w69 w.heap.size (fun _ => True) (.slice (some ⟨go64, 0, none⟩) y308.length co67) y312 := (by rw [hw, Ny312.out]; exact HP68.1); clear HP68; have n0_ := Aside0.mk (Kd.R_overB' (v := (.slice (some ⟨go64, 0, none⟩) y308.length co67)) (by (with_reducible repeat (first | apply Kd.R_alloc | apply Kd.R_drewN | apply Kd.R_drew)); exact HO_10.out) (Kd.B_typed HO310.out) (by decide) hg); have n1_ := Aside0.mk (hp_); have n2_ := Aside0.mk ((by rw [hw]; exact below_set (HB.out) GB64.out : Below w.heap.size w w69)); clear HO_10; clear HO310; clear HB; have HO_10 := n0_; have HO310 := n1_; have HB := n2_; clear n0_ n1_ n2_; clear hg hw hp_))
                   go_loopg [23, 24] kj30 (fun kq v23 v24 w' => ∃ (x23_4 : Int) (x24_4 : Int), v23 = .int .i64 x23_4 ∧ v24 = .int .i64 x24_4 ∧ Aside0 (boomeranglaw3_FrameCut.l2 kq l0 a3 x10_1 y312 ji61 x23_4 x24_4 = some r) ∧ Aside0 (kq ≤ kj30) ∧ Aside0 (Kd.R (Kd.int .i64) 3 w' w.heap.size (fun _ => True) (.slice Ao32 x10_1.length co32) x10_1) ∧ Aside0 (Kd.B (Kd.int .u8) 5 w' w.heap.size (fun _ => True) (.slice (some ⟨go64, 0, none⟩) y308.length co67) y312) ∧ Aside0 (Below w.heap.size w w'))
                   case atStart => exact ⟨(0), (0), (by first | rfl | (simp; done) | (simp [*]; done)), (by first | rfl | (simp; done) | (simp [*]; done)), H', ⟨Nat.le_refl _⟩, ⟨by (with_reducible repeat (first | apply Kd.R_alloc | apply Kd.R_drewN | apply Kd.R_drew)); exact HO_10.out⟩, ⟨by (with_reducible repeat (first | apply Kd.B_alloc | apply Kd.B_drewN | apply Kd.B_drew)); exact HO310.out⟩, ⟨by repeat (first | (with_reducible first | exact HB.out | apply below_alloc | apply pw_below_drewN | apply below_drew1) | exact HB.out)⟩⟩
                   case round =>
                    clear H'
                    try clear c1
                    try clear c2
                    try clear p2
                    try clear q2
                    try clear hx2
                    try clear c3
                    try clear p3
                    try clear q3
                    try clear hx3
                    try clear c4
                    try clear c5
                    try clear c5b0
                    try clear c5b1
                    try clear c6
                    try clear p6
                    try clear q6
                    try clear hx6
                    try clear hf6
                    try clear c8
                    try clear c8b0
                    try clear c9
                    try clear c9b0
                    try clear c10
                    try clear c10b0
                    try clear c10b1
                    try clear c15
                    try clear c15b0
                    try clear c15b1
                    try clear c16
                    try clear c16b0
                    try clear c16b1
                    try clear c16b2
                    try clear c17
                    try clear c19
                    try clear c20
                    try clear c21
                    try clear c21b0
                    try clear c21b1
                    try clear c22
                    try clear c22b0
                    try clear c23
                    try clear c23b0
                    try clear c24
                    try clear c24b0
                    try clear c25
                    try clear c28
                    try clear c28b0
                    try clear c28b1
                    try clear p28
                    try clear q28
                    try clear hx28
                    try clear c29
                    try clear c29b0
                    try clear c29b1
                    try clear p29
                    try clear q29
                    try clear hx29
                    try clear p31
                    try clear q31
                    try clear hx31
                    try clear c34
                    try clear c34b0
                    try clear c34b1
                    try clear c35
                    try clear c35b0
                    try clear c35b1
                    try clear c37
                    try clear c38
                    try clear c38b0
                    try clear c38b1
                    try clear c40
                    try clear c40b0
                    try clear c40b1
                    try clear c45
                    try clear c45b0
                    try clear c45b1
                    try clear c55
                    try clear c56
                    try clear c56b0
                    try clear c56b1
                    try clear c59
                    try clear c59b0
                    try clear c59b1
                    try clear c59b2
                    try clear c60
                    try clear c60b0
                    try clear c60b1
                    try clear c60b2
                    try clear c62
                    try clear c62b0
                    try clear c63
                    try clear c63b0
                    try clear p64
                    try clear q64
                    try clear hx64
                    try clear hf64
                    try clear hx285_0
                    try clear hx287_0
                    try clear hx294_0
                    try clear hx295_0
                    try clear hx311_0
                    try clear hx64_0
                    try clear p2
                    try clear p28
                    try clear p285
                    try clear p287
                    try clear p29
                    try clear p294
                    try clear p295
                    try clear p311
                    try clear p6
                    try clear p64
                    try clear q2
                    try clear q28
                    try clear q285
                    try clear q287
                    try clear q29
                    try clear q294
                    try clear q295
                    try clear q311
                    try clear q64
                    obtain ⟨x23_4, x24_4, rfl, rfl, HA, HK4, HO_10, HO_21, HB⟩ := hrel
                    have hl21_4 := (Kd.B_reads' HO_21.out).1
                    rw [hl21_4] at HO_21
                    (try simp only [hl21_4])
                    (try simp only [hl21_4] at HO_10)
                    cases gk with
                    | zero => exact absurd HA.out (by simp [boomeranglaw3_FrameCut.l2])
                    | succ k4 =>
                     have H := HA.out
                     clear HA
                     simp only [boomeranglaw3_FrameCut.l2] at H
                     by_cases c70 : x24_4 < (x10_1.length : Int)
                     ·rw [if_pos c70] at H
                      have c70b0 : decide (x24_4 < (x10_1.length : Int)) = true := decide_eq_true c70
                      clear c70
                      by_cases c71 : 0 ≤ x24_4
                      ·rw [if_pos c71] at H
                       have c71b0 : decide (0 ≤ x24_4) = true := decide_eq_true c71
                       clear c71
                       by_cases c72 : (rd x10_1 x24_4) ≤ ji61
                       ·rw [if_pos c72] at H
                        have c72b0 : decide ((rd x10_1 x24_4) ≤ ji61) = true := decide_eq_true c72
                        clear c72
                        have H' := Aside0.mk H
                        clear H
                        have p313 : 0 ≤ (x24_4 : Int) := of_decide_eq_true (by first | (with_reducible assumption) | assumption)
                        have q313 : x24_4 < (x10_1.length : Int) := of_decide_eq_true (by first | (with_reducible assumption) | assumption)
                        obtain ⟨ad313, e313, hx313_0⟩ := Kd.at_int (Kd.R_reads' HO_10.out).2.2 x24_4 p313 q313
                        cases e313
                        replace p313 := eq_true p313
                        replace q313 := eq_true q313
                        go_wp2
                        (try simp only [← hl21_4])
                        go_roundg k4
                        case measure => have := HK1.out; have := HK2.out; have := HJ30.out; have := HK4.out; omega
                        case rel => exact ⟨(wrap64 (x24_4 + 1)), (wrap64 (x24_4 + 1)), (by first | rfl | (simp; done) | (simp [*]; done)), (by first | rfl | (simp; done) | (simp [*]; done)), H', ⟨by have := HK1.out; have := HK2.out; have := HJ30.out; have := HK4.out; omega⟩, ⟨by (try simp only [hl21_4]); (with_reducible repeat (first | apply Kd.R_alloc | apply Kd.R_drewN | apply Kd.R_drew)); exact HO_10.out⟩, ⟨by (try simp only [hl21_4]); (with_reducible repeat (first | apply Kd.B_alloc | apply Kd.B_drewN | apply Kd.B_drew)); exact HO_21.out⟩, ⟨by repeat (first | (with_reducible first | exact HB.out | apply below_alloc | apply pw_below_drewN | apply below_drew1) | exact HB.out)⟩⟩
                       ·rw [if_neg c72] at H
                        have c72b0 : decide ((rd x10_1 x24_4) ≤ ji61) = false := decide_eq_false c72
                        clear c72
                        have H' := Aside0.mk H
                        clear H
                        have p313 : 0 ≤ (x24_4 : Int) := of_decide_eq_true (by first | (with_reducible assumption) | assumption)
                        have q313 : x24_4 < (x10_1.length : Int) := of_decide_eq_true (by first | (with_reducible assumption) | assumption)
                        obtain ⟨ad313, e313, hx313_0⟩ := Kd.at_int (Kd.R_reads' HO_10.out).2.2 x24_4 p313 q313
                        cases e313
                        replace p313 := eq_true p313
                        replace q313 := eq_true q313
                        go_wp2
                        (try simp only [← hl21_4])
                        go_roundg k4
                        case measure => have := HK1.out; have := HK2.out; have := HJ30.out; have := HK4.out; omega
                        case rel => exact ⟨(x23_4), (wrap64 (x24_4 + 1)), (by first | rfl | (simp; done) | (simp [*]; done)), (by first | rfl | (simp; done) | (simp [*]; done)), H', ⟨by have := HK1.out; have := HK2.out; have := HJ30.out; have := HK4.out; omega⟩, ⟨by (try simp only [hl21_4]); (with_reducible repeat (first | apply Kd.R_alloc | apply Kd.R_drewN | apply Kd.R_drew)); exact HO_10.out⟩, ⟨by (try simp only [hl21_4]); (with_reducible repeat (first | apply Kd.B_alloc | apply Kd.B_drewN | apply Kd.B_drew)); exact HO_21.out⟩, ⟨by repeat (first | (with_reducible first | exact HB.out | apply below_alloc | apply pw_below_drewN | apply below_drew1) | exact HB.out)⟩⟩
                      ·rw [if_neg c71] at H
                       exact absurd H (by simp)
                     ·rw [if_neg c70] at H
                      have c70b0 : decide (x24_4 < (x10_1.length : Int)) = false := decide_eq_false c70
                      clear c70
                      replace H := Option.bind_eq_some_iff.mp H
                      obtain ⟨⟨t314, t315, t316⟩, A730, H⟩ := H
                      replace H : (if (t314.length : Int) ≥ x23_4 then (if 0 ≤ x23_4 then (if x23_4 ≤ (t314.length : Int) then (if x23_4 ≤ (l0.length : Int) then ((boomerangref1_SameTexts.f k4 (t314.take (x23_4 : Int).toNat) (l0.take (x23_4 : Int).toNat)).bind fun t324 => (if t324 = true then (if a3 = 0 then ((boomeranglaw1_Err.f t316).bind fun t325 => (if t325 = 0 then ((boomeranglaw3_awake.f k4).bind fun t326 => (some t326)) else (some false))) else ((boomeranglaw3_awake.f k4).bind fun t327 => (some t327))) else (some false))) else (none)) else (none)) else (none)) else (some false)) = some r := H
                      have A73 := Aside0.mk A730
                      clear A730
                      by_cases c74 : (t314.length : Int) ≥ x23_4
                      ·rw [if_pos c74] at H
                       have c74b0 : decide (x23_4 ≤ (t314.length : Int)) = true := decide_eq_true c74
                       clear c74
                       by_cases c75 : 0 ≤ x23_4
                       ·rw [if_pos c75] at H
                        have c75b0 := eq_true c75
                        have c75b1 : decide (0 ≤ x23_4) = true := decide_eq_true c75
                        clear c75
                        by_cases c76 : x23_4 ≤ (t314.length : Int)
                        ·rw [if_pos c76] at H
                         have c76b0 := eq_true c76
                         have c76b1 : decide (x23_4 ≤ (t314.length : Int)) = true := decide_eq_true c76
                         clear c76
                         obtain ⟨y319, hy319⟩ : ∃ y_ : List ByteArray, y_ = (t314.take (x23_4 : Int).toNat) := ⟨_, rfl⟩
                         replace H : (if x23_4 ≤ (l0.length : Int) then ((boomerangref1_SameTexts.f k4 y319 (l0.take (x23_4 : Int).toNat)).bind fun t324 => (if t324 = true then (if a3 = 0 then ((boomeranglaw1_Err.f t316).bind fun t325 => (if t325 = 0 then ((boomeranglaw3_awake.f k4).bind fun t326 => (some t326)) else (some false))) else ((boomeranglaw3_awake.f k4).bind fun t327 => (some t327))) else (some false))) else (none)) = some r := by first | (rw [hy319]; with_reducible exact H) | (have H2_ := (Option.bind_some _ _).symm.trans H; rw [hy319]; with_reducible exact H2_) | (have H2_ := (Option.bind_some _ _).symm.trans H; with_reducible exact H2_) | with_reducible exact H | (rw [hy319]; exact H) | exact H
                         have Ny319 := Aside0.mk hy319
                         clear hy319
                         have c77b0 := eq_true (of_decide_eq_true (by first | (with_reducible assumption) | assumption) : 0 ≤ x23_4)
                         by_cases c78 : x23_4 ≤ (l0.length : Int)
                         ·rw [if_pos c78] at H
                          have c78b0 := eq_true c78
                          have c78b1 : decide (x23_4 ≤ (l0.length : Int)) = true := decide_eq_true c78
                          clear c78
                          replace H := Option.bind_eq_some_iff.mp H
                          obtain ⟨t324, A790, H⟩ := H
                          replace H : (if t324 = true then (if a3 = 0 then ((boomeranglaw1_Err.f t316).bind fun t325 => (if t325 = 0 then ((boomeranglaw3_awake.f k4).bind fun t326 => (some t326)) else (some false))) else ((boomeranglaw3_awake.f k4).bind fun t327 => (some t327))) else (some false)) = some r := H
                          have A79 := Aside0.mk A790
                          clear A790
                          by_cases c80 : t324 = true
                          ·subst c80
                           have H1 : (if a3 = 0 then ((boomeranglaw1_Err.f t316).bind fun t325 => (if t325 = 0 then ((boomeranglaw3_awake.f k4).bind fun t326 => (some t326)) else (some false))) else ((boomeranglaw3_awake.f k4).bind fun t327 => (some t327))) = some r := by rw [if_pos rfl] at H; exact H
                           clear H
                           have H := H1
                           clear H1
                           by_cases c81 : a3 = 0
                           ·rw [if_pos c81] at H
                            have c81b0 : (a3 == 0) = true := beq_iff_eq.mpr c81
                            have c81b1 : (a3 != 0) = false := bne_eq_false_iff_eq.mpr c81
                            clear c81
                            replace H := Option.bind_eq_some_iff.mp H
                            obtain ⟨t325, A820, H⟩ := H
                            replace H : (if t325 = 0 then ((boomeranglaw3_awake.f k4).bind fun t326 => (some t326)) else (some false)) = some r := H
                            have A82 := Aside0.mk A820
                            clear A820
                            by_cases c83 : t325 = 0
                            ·rw [if_pos c83] at H
                             have c83b0 : (t325 == 0) = true := beq_iff_eq.mpr c83
                             (try (have wc83b0_t324 : (t324 == 0) = true := by rw [Option.some.inj (A79.out.symm.trans A82.out)]; exact c83b0))
                             (try (have vc83b0_t324 : (t324 != 0) = false := by have h_ := wc83b0_t324; simpa using h_))
                             have c83b1 : (t325 != 0) = false := bne_eq_false_iff_eq.mpr c83
                             clear c83
                             replace H := Option.bind_eq_some_iff.mp H
                             obtain ⟨t326, A840, H⟩ := H
                             (try (have zc83b0_t326 : (t326 == 0) = true := by rw [← Option.some.inj (A82.out.symm.trans A840)]; exact c83b0))
                             (try (have yc83b0_t326 : (t326 != 0) = false := by have h_ := zc83b0_t326; simpa using h_))
                             replace H : (some t326) = some r := H
                             have A84 := Aside0.mk A840
                             clear A840
                             obtain rfl := Option.some.inj H
                             have hcv85 := Kd.B_string (P := Try.prog) Try.underlying22 Try.underlying5 Try.underlying9 HO_21.out
                             try go_wp2_with (first | ((with_reducible refine gate_callee (f := 23) rfl ?_); refine goesL_ (some 161) rfl rfl Try.func23 (by kernel_rfl) rfl #[.string (strOfNums y312)] rfl (by (try simp only [List.map_toArray, List.map_cons, List.map_nil]); first | done | rfl | (simp only [List.length_drop, List.length_take]; rfl)) ?_; (with_reducible refine (frame_All.calls k4 (strOfNums y312) t314 t315 t316 _ A73.out).mono ?_); rintro e w86 ⟨v317, rfl, ho0, hb⟩; refine ⟨_, rfl, ?_⟩; have n0_ := Aside0.mk (Kd.R_below (by (with_reducible repeat (first | apply Kd.R_alloc | apply Kd.R_drewN | apply Kd.R_drew)); exact HO_10.out) hb); have n1_ := Aside0.mk (Kd.B_below (by (with_reducible repeat (first | apply Kd.B_alloc | apply Kd.B_drewN | apply Kd.B_drew)); exact HO_21.out) hb); have n2_ := Aside0.mk (Kd.R_lower ho0 (below_size (by repeat (first | (with_reducible first | exact HB.out | apply below_alloc | apply pw_below_drewN | apply below_drew1) | exact HB.out)))); have n3_ := Aside0.mk (below_step (by repeat (first | (with_reducible first | exact HB.out | apply below_alloc | apply pw_below_drewN | apply below_drew1) | exact HB.out)) hb); clear HO_10; clear HO_21; clear HB; have HO_10 := n0_; have HO_21 := n1_; have HO318 := n2_; have HB := n3_; clear n0_ n1_ n2_ n3_; (try clear hb); (try clear hb2); (try clear hk); (try clear hi); (try clear ho0)))
                             have n0_ := Aside0.mk (Kd.R_drew HO_10.out)
                             have n1_ := Aside0.mk (Kd.B_drew HO_21.out)
                             have n2_ := Aside0.mk (Kd.R_drew HO318.out)
                             have n3_ := Aside0.mk (below_drew1 HB.out)
                             clear HO_10
                             clear HO_21
                             clear HO318
                             clear HB
                             have HO_10 := n0_
                             have HO_21 := n1_
                             have HO318 := n2_
                             have HB := n3_
                             clear n0_ n1_ n2_ n3_
                             obtain ⟨Ao88, co88, eo88⟩ := Kd.R_slice HO318.out
                             (first | subst eo88 | (injection eo88 with f1_ f2_ f3_; have f4_ := f1_.symm; have f5_ := f3_.symm; clear f1_ f2_ f3_; subst f4_; subst f5_))
                             have q89 : (x23_4 : Int) ≤ ((t314.length : Int) : Int) := of_decide_eq_true (by first | (with_reducible assumption) | assumption)
                             obtain ⟨i089, hi089, _, hsz89, _⟩ := info_parts info9
                             have hroom89 : t314.length ≤ co88 := (Kd.R_reads' HO318.out).2.1
                             have hC89 : Kd.C Kd.string _ Ao88 t314.length t314 := (Kd.R_reads' HO318.out).2.2
                             have hcut89 := cut_to (P := Try.prog) 39 9 .i64 Try.underlying39 hi089 Ao88 t314.length co88 x23_4 (of_decide_eq_true (by first | (with_reducible assumption) | assumption)) q89 hroom89
                             have hr89 := Kd.C_take (m := (x23_4 : Int).toNat) hC89 (by omega)
                             have hy89 : y319.length = (x23_4 : Int).toNat := (by rw [Ny319.out, List.length_take]; omega)
                             rw [← Ny319.out] at hr89
                             rw [← hy89] at hcut89
                             have HR322 := Aside0.mk hr89
                             have HC322 := Aside0.mk (show y319.length ≤ co88 from by omega)
                             clear hr89 hC89 hroom89 hi089 hsz89
                             have KY89 := Aside0.mk hy89
                             clear hy89
                             have KL89 := Aside0.mk (show (x23_4 : Int).toNat ≤ t314.length from by omega)
                             replace q89 := eq_true q89
                             obtain ⟨i090, hi090, _, hsz90, _⟩ := info_parts info9
                             obtain ⟨hcut90, hA90, hC90⟩ := print_take_of (P := Try.prog) Value.string (⟨#[]⟩ : ByteArray) 39 9 .i64 Try.underlying39 hi090 hsz90 A0 c0 l0 x23_4 (of_decide_eq_true (by first | (with_reducible assumption) | assumption)) (of_decide_eq_true (by first | (with_reducible assumption) | assumption)) HC0.out
                             have HR323 := Aside0.mk (Kd.C_of_reads (h1 := fun _ => rfl) (hA90 _ (Kd.reads_of_C HR0.out)))
                             have HC323 := Aside0.mk hC90
                             clear hA90 hC90 hi090 hsz90
                             refine start_ (n := 26) (S := fun w' => True) (ds := []) #[false, false, false, false, false, false, false, false, false, false, false, false, false, false, false, false, false, false, false, false, false, false, false, false, false, false] (by kernel_rfl) rfl rfl trivial (fun hHeld => ?_); refine with_tabW boomeranglaw3_FrameCut.tab38 boomeranglaw3_FrameCut.bits38 (fun HT_ HW_ => ?_)
                             generalize w86.drew = w87 at HO_10 HO_21 HO318 HB HR322 HR323 hHeld ⊢
                             refine pure_ (i := 0) (N := some 165) (v := ?_) (a' := ?_) #[true, false, false, false, false, false, false, false, false, false, false, false, false, false, false, false, false, false, false, false, false, false, false, false, false, false] rfl rfl (any_of HT_.out (by kernel_rfl)) (fun _ _ _ h => h) (Or.inl ⟨by rfl, ?_⟩) ?_ ?_
                             rotate_left
                             ·intro w'
                              go_simp
                              with_reducible rfl
                             rotate_left
                             ·simp only [Act.put, List.setIfInBounds_toArray, List.set_cons_zero, List.set_cons_succ, i64_w, i32_w]
                              rfl
                             refine pure_ (i := 1) (N := some 166) (v := ?_) (a' := ?_) #[true, true, false, false, false, false, false, false, false, false, false, false, false, false, false, false, false, false, false, false, false, false, false, false, false, false] rfl rfl (any_of HT_.out (by kernel_rfl)) (fun _ _ _ h => h) (Or.inl ⟨by rfl, ?_⟩) ?_ ?_
                             rotate_left
                             ·intro w'
                              go_simp
                              with_reducible rfl
                             rotate_left
                             ·simp only [Act.put, List.setIfInBounds_toArray, List.set_cons_zero, List.set_cons_succ, i64_w, i32_w]
                              rfl
                             refine pure_ (i := 2) (N := some 167) (v := ?_) (a' := ?_) #[true, true, true, false, false, false, false, false, false, false, false, false, false, false, false, false, false, false, false, false, false, false, false, false, false, false] rfl rfl (any_of HT_.out (by kernel_rfl)) (fun _ _ _ h => h) (Or.inl ⟨by rfl, ?_⟩) ?_ ?_
                             rotate_left
                             ·intro w'
                              go_simp
                              with_reducible rfl
                             rotate_left
                             ·simp only [Act.put, List.setIfInBounds_toArray, List.set_cons_zero, List.set_cons_succ, i64_w, i32_w]
                              rfl
                             refine pure_ (i := 3) (N := some 168) (v := ?_) (a' := ?_) #[true, true, true, true, false, false, false, false, false, false, false, false, false, false, false, false, false, false, false, false, false, false, false, false, false, false] rfl rfl (any_of HT_.out (by kernel_rfl)) (fun _ _ _ h => h) (Or.inl ⟨by rfl, ?_⟩) ?_ ?_
                             rotate_left
                             ·intro w'
                              go_simp
                              with_reducible rfl
                             rotate_left
                             ·simp only [Act.put, List.setIfInBounds_toArray, List.set_cons_zero, List.set_cons_succ, i64_w, i32_w]
                              rfl
                             refine pure_ (i := 4) (N := some 169) (v := ?_) (a' := ?_) #[true, true, true, true, true, false, false, false, false, false, false, false, false, false, false, false, false, false, false, false, false, false, false, false, false, false] rfl rfl (any_of HT_.out (by kernel_rfl)) (fun _ _ _ h => h) (Or.inl ⟨by rfl, ?_⟩) ?_ ?_
                             rotate_left
                             ·intro w'
                              go_simp
                              with_reducible rfl
                             rotate_left
                             ·simp only [Act.put, List.setIfInBounds_toArray, List.set_cons_zero, List.set_cons_succ, i64_w, i32_w]
                              rfl
                             refine pure_ (i := 5) (N := some 170) (v := ?_) (a' := ?_) #[true, true, true, true, true, true, false, false, false, false, false, false, false, false, false, false, false, false, false, false, false, false, false, false, false, false] rfl rfl (any_of HT_.out (by kernel_rfl)) (fun _ _ _ h => h) (Or.inl ⟨by rfl, ?_⟩) ?_ ?_
                             rotate_left
                             ·intro w'
                              go_simp
                              with_reducible rfl
                             rotate_left
                             ·simp only [Act.put, List.setIfInBounds_toArray, List.set_cons_zero, List.set_cons_succ, i64_w, i32_w]
                              rfl
                             refine pure_ (i := 6) (N := some 171) (v := ?_) (a' := ?_) #[true, true, true, true, true, true, true, false, false, false, false, false, false, false, false, false, false, false, false, false, false, false, false, false, false, false] rfl rfl (any_of HT_.out (by kernel_rfl)) (fun _ _ _ h => h) (Or.inl ⟨by rfl, ?_⟩) ?_ ?_
                             rotate_left
                             ·intro w'
                              go_simp
                              with_reducible rfl
                             rotate_left
                             ·simp only [Act.put, List.setIfInBounds_toArray, List.set_cons_zero, List.set_cons_succ, i64_w, i32_w]
                              rfl
                             refine pure_ (i := 7) (N := some 172) (v := ?_) (a' := ?_) #[true, true, true, true, true, true, true, true, false, false, false, false, false, false, false, false, false, false, false, false, false, false, false, false, false, false] rfl rfl (any_of HT_.out (by kernel_rfl)) (fun _ _ _ h => h) (Or.inl ⟨by rfl, ?_⟩) ?_ ?_
                             rotate_left
                             ·intro w'
                              go_simp
                              with_reducible rfl
                             rotate_left
                             ·simp only [Act.put, List.setIfInBounds_toArray, List.set_cons_zero, List.set_cons_succ, i64_w, i32_w]
                              rfl
                             refine pure_ (i := 8) (N := some 173) (v := ?_) (a' := ?_) #[true, true, true, true, true, true, true, true, true, false, false, false, false, false, false, false, false, false, false, false, false, false, false, false, false, false] rfl rfl (any_of HT_.out (by kernel_rfl)) (fun _ _ _ h => h) (Or.inl ⟨by rfl, ?_⟩) ?_ ?_
                             rotate_left
                             ·intro w'
                              go_simp
                              with_reducible rfl
                             rotate_left
                             ·simp only [Act.put, List.setIfInBounds_toArray, List.set_cons_zero, List.set_cons_succ, i64_w, i32_w]
                              rfl
                             refine pure_ (i := 9) (N := some 174) (v := ?_) (a' := ?_) #[true, true, true, true, true, true, true, true, true, true, false, false, false, false, false, false, false, false, false, false, false, false, false, false, false, false] rfl rfl (any_of HT_.out (by kernel_rfl)) (fun _ _ _ h => h) (Or.inl ⟨by rfl, ?_⟩) ?_ ?_
                             rotate_left
                             ·intro w'
                              go_simp
                              with_reducible rfl
                             rotate_left
                             ·simp only [Act.put, List.setIfInBounds_toArray, List.set_cons_zero, List.set_cons_succ, i64_w, i32_w]
                              rfl
                             refine pure_ (i := 10) (N := some 175) (v := ?_) (a' := ?_) #[true, true, true, true, true, true, true, true, true, true, true, false, false, false, false, false, false, false, false, false, false, false, false, false, false, false] rfl rfl (any_of HT_.out (by kernel_rfl)) (fun _ _ _ h => h) (Or.inl ⟨by rfl, ?_⟩) ?_ ?_
                             rotate_left
                             ·intro w'
                              go_simp
                              with_reducible rfl
                             rotate_left
                             ·simp only [Act.put, List.setIfInBounds_toArray, List.set_cons_zero, List.set_cons_succ, i64_w, i32_w]
                              rfl
                             refine one_ (i := 11) (N := some 176) #[true, true, true, true, true, true, true, true, true, true, true, true, false, false, false, false, false, false, false, false, false, false, false, false, false, false] rfl rfl (one_of HT_.out (by kernel_rfl)) (by decide) (fun K hK => ?_)
                             refine goes_ Try.func25 (by kernel_rfl) rfl #[.slice Ao88 y319.length co88, .slice A0 (l0.take (x23_4 : Int).toNat).length c0] (by rfl) rfl rfl (by (try simp only [List.map_toArray, List.map_cons, List.map_nil]); first | done | (rw [show (l0.take (x23_4 : Int).toNat).length = x23_4.toNat from (by rw [List.length_take]; have h_ : (x23_4 : Int) ≤ (l0.length : Int) := of_decide_eq_true (by first | (with_reducible assumption) | assumption); omega)] <;> rfl) | rfl | (simp only [List.length_drop, List.length_take]; rfl)) ?_
                             with_reducible refine (boomerangref1_SameTexts.calls k4 _ _ y319 _ _ (l0.take (x23_4 : Int).toNat) true _ ?side1 ?side2 ?side3 ?side4 A79.out).mono ?_
                             (case side1 => repeat (first | exact (by repeat (first | (with_reducible exact HR322.out) | (with_reducible refine Kd.C_alloc ?_ _) | (with_reducible refine Kd.C_drewN ?_ _) | (with_reducible refine Kd.C_drew ?_) | exact HR322.out)) | (with_reducible refine Kd.C_alloc ?_ _) | (with_reducible refine Kd.C_drewN ?_ _) | (with_reducible refine Kd.C_drew ?_)))
                             (case side2 => exact HC322.out)
                             (case side3 => repeat (first | exact (Kd.C_below HR323.out HB.out) | (with_reducible refine Kd.C_alloc ?_ _) | (with_reducible refine Kd.C_drewN ?_ _) | (with_reducible refine Kd.C_drew ?_)))
                             (case side4 => exact HC323.out)
                             rintro e w' ⟨rfl, ⟨nd, rfl⟩⟩
                             refine ⟨_, rfl, ?_⟩
                             refine hK.out _ _ trivial (fun hHeld => ?_)
                             clear hK K
                             refine norm_ (a' := ?_) ?_ ?_
                             rotate_left
                             ·show Act.put _ (some 176) _ = _
                              simp only [Act.put, List.setIfInBounds_toArray, List.set_cons_zero, List.set_cons_succ, i64_w, i32_w]
                              rfl
                             refine pure_ (i := 12) (N := some 177) (v := ?_) (a' := ?_) #[true, true, true, true, true, true, true, true, true, true, true, true, true, false, false, false, false, false, false, false, false, false, false, false, false, false] rfl rfl (any_of HT_.out (by kernel_rfl)) (fun _ _ _ h => h) (Or.inl ⟨by rfl, ?_⟩) ?_ ?_
                             rotate_left
                             ·intro w'
                              go_simp
                              with_reducible rfl
                             rotate_left
                             ·simp only [Act.put, List.setIfInBounds_toArray, List.set_cons_zero, List.set_cons_succ, i64_w, i32_w]
                              rfl
                             refine pure_ (i := 13) (N := some 178) (v := ?_) (a' := ?_) #[true, true, true, true, true, true, true, true, true, true, true, true, true, true, false, false, false, false, false, false, false, false, false, false, false, false] rfl rfl (any_of HT_.out (by kernel_rfl)) (fun _ _ _ h => h) (Or.inl ⟨by rfl, ?_⟩) ?_ ?_
                             rotate_left
                             ·intro w'
                              go_simp
                              with_reducible rfl
                             rotate_left
                             ·simp only [Act.put, List.setIfInBounds_toArray, List.set_cons_zero, List.set_cons_succ, i64_w, i32_w]
                              rfl
                             refine pure_ (i := 14) (N := some 179) (v := ?_) (a' := ?_) #[true, true, true, true, true, true, true, true, true, true, true, true, true, true, true, false, false, false, false, false, false, false, false, false, false, false] rfl rfl (any_of HT_.out (by kernel_rfl)) (fun _ _ _ h => h) (Or.inl ⟨by rfl, ?_⟩) ?_ ?_
                             rotate_left
                             ·intro w'
                              go_simp
                              with_reducible rfl
                             rotate_left
                             ·simp only [Act.put, List.setIfInBounds_toArray, List.set_cons_zero, List.set_cons_succ, i64_w, i32_w]
                              rfl
                             refine pure_ (i := 15) (N := some 180) (v := ?_) (a' := ?_) #[true, true, true, true, true, true, true, true, true, true, true, true, true, true, true, true, false, false, false, false, false, false, false, false, false, false] rfl rfl (any_of HT_.out (by kernel_rfl)) (fun _ _ _ h => h) (Or.inl ⟨by rfl, ?_⟩) ?_ ?_
                             rotate_left
                             ·intro w'
                              go_simp
                              with_reducible rfl
                             rotate_left
                             ·simp only [Act.put, List.setIfInBounds_toArray, List.set_cons_zero, List.set_cons_succ, i64_w, i32_w]
                              rfl
                             refine pure_ (i := 16) (N := some 181) (v := ?_) (a' := ?_) #[true, true, true, true, true, true, true, true, true, true, true, true, true, true, true, true, true, false, false, false, false, false, false, false, false, false] rfl rfl (any_of HT_.out (by kernel_rfl)) (fun _ _ _ h => h) (Or.inl ⟨by rfl, ?_⟩) ?_ ?_
                             rotate_left
                             ·intro w'
                              go_simp
                              with_reducible rfl
                             rotate_left
                             ·simp only [Act.put, List.setIfInBounds_toArray, List.set_cons_zero, List.set_cons_succ, i64_w, i32_w]
                              rfl
                             refine pure_ (i := 17) (N := some 182) (v := ?_) (a' := ?_) #[true, true, true, true, true, true, true, true, true, true, true, true, true, true, true, true, true, true, false, false, false, false, false, false, false, false] rfl rfl (any_of HT_.out (by kernel_rfl)) (fun _ _ _ h => h) (Or.inl ⟨by rfl, ?_⟩) ?_ ?_
                             rotate_left
                             ·intro w'
                              go_simp
                              with_reducible rfl
                             rotate_left
                             ·simp only [Act.put, List.setIfInBounds_toArray, List.set_cons_zero, List.set_cons_succ, i64_w, i32_w]
                              rfl
                             refine one_ (i := 18) (N := some 183) #[true, true, true, true, true, true, true, true, true, true, true, true, true, true, true, true, true, true, true, false, false, false, false, false, false, false] rfl rfl (one_of HT_.out (by kernel_rfl)) (by decide) (fun K hK => ?_)
                             refine goes_ Try.func19 (by kernel_rfl) rfl #[.int .i64 t316] (by rfl) rfl rfl (by (try simp only [List.map_toArray, List.map_cons, List.map_nil]); first | done | rfl | (simp only [List.length_drop, List.length_take]; rfl)) ?_
                             with_reducible refine (boomeranglaw1_Err.calls t316 t325 _ A82.out).mono ?_
                             rintro e w' ⟨rfl, ⟨nd, rfl⟩⟩
                             refine ⟨_, rfl, ?_⟩
                             refine hK.out _ _ trivial (fun hHeld => ?_)
                             clear hK K
                             refine norm_ (a' := ?_) ?_ ?_
                             rotate_left
                             ·show Act.put _ (some 183) _ = _
                              simp only [Act.put, List.setIfInBounds_toArray, List.set_cons_zero, List.set_cons_succ, i64_w, i32_w]
                              rfl
                             refine pure_ (i := 19) (N := some 184) (v := ?_) (a' := ?_) #[true, true, true, true, true, true, true, true, true, true, true, true, true, true, true, true, true, true, true, true, false, false, false, false, false, false] rfl rfl (any_of HT_.out (by kernel_rfl)) (fun _ _ _ h => h) (Or.inl ⟨by rfl, ?_⟩) ?_ ?_
                             rotate_left
                             ·intro w'
                              go_simp
                              with_reducible rfl
                             rotate_left
                             ·simp only [Act.put, List.setIfInBounds_toArray, List.set_cons_zero, List.set_cons_succ, i64_w, i32_w]
                              rfl
                             refine pure_ (i := 20) (N := some 185) (v := ?_) (a' := ?_) #[true, true, true, true, true, true, true, true, true, true, true, true, true, true, true, true, true, true, true, true, true, false, false, false, false, false] rfl rfl (any_of HT_.out (by kernel_rfl)) (fun _ _ _ h => h) (Or.inl ⟨by rfl, ?_⟩) ?_ ?_
                             rotate_left
                             ·intro w'
                              go_simp
                              with_reducible rfl
                             rotate_left
                             ·simp only [Act.put, List.setIfInBounds_toArray, List.set_cons_zero, List.set_cons_succ, i64_w, i32_w]
                              rfl
                             refine pure_ (i := 21) (N := some 186) (v := ?_) (a' := ?_) #[true, true, true, true, true, true, true, true, true, true, true, true, true, true, true, true, true, true, true, true, true, true, false, false, false, false] rfl rfl (any_of HT_.out (by kernel_rfl)) (fun _ _ _ h => h) (Or.inl ⟨by rfl, ?_⟩) ?_ ?_
                             rotate_left
                             ·intro w'
                              go_simp
                              with_reducible rfl
                             rotate_left
                             ·simp only [Act.put, List.setIfInBounds_toArray, List.set_cons_zero, List.set_cons_succ, i64_w, i32_w]
                              rfl
                             refine pure_ (i := 22) (N := some 187) (v := ?_) (a' := ?_) #[true, true, true, true, true, true, true, true, true, true, true, true, true, true, true, true, true, true, true, true, true, true, true, false, false, false] rfl rfl (any_of HT_.out (by kernel_rfl)) (fun _ _ _ h => h) (Or.inl ⟨by rfl, ?_⟩) ?_ ?_
                             rotate_left
                             ·intro w'
                              go_simp
                              with_reducible rfl
                             rotate_left
                             ·simp only [Act.put, List.setIfInBounds_toArray, List.set_cons_zero, List.set_cons_succ, i64_w, i32_w]
                              rfl
                             refine one_ (i := 23) (N := some 188) #[true, true, true, true, true, true, true, true, true, true, true, true, true, true, true, true, true, true, true, true, true, true, true, true, false, false] rfl rfl (one_of HT_.out (by kernel_rfl)) (by decide) (fun K hK => ?_)
                             refine goes_ Try.func20 (by kernel_rfl) rfl #[] (by rfl) rfl rfl (by (try simp only [List.map_toArray, List.map_cons, List.map_nil]); first | done | rfl | (simp only [List.length_drop, List.length_take]; rfl)) ?_
                             with_reducible refine (boomeranglaw3_awake.calls k4  t326 _ A84.out).mono ?_
                             rintro e w91 ⟨rfl, hb⟩
                             refine ⟨_, rfl, ?_⟩
                             have n0_ := Aside0.mk (Kd.R_below (by (with_reducible repeat (first | apply Kd.R_alloc | apply Kd.R_drewN | apply Kd.R_drew)); exact HO_10.out) hb)
                             have n1_ := Aside0.mk (Kd.B_below (by (with_reducible repeat (first | apply Kd.B_alloc | apply Kd.B_drewN | apply Kd.B_drew)); exact HO_21.out) hb)
                             have n2_ := Aside0.mk (Kd.R_below (by (with_reducible repeat (first | apply Kd.R_alloc | apply Kd.R_drewN | apply Kd.R_drew)); exact HO318.out) hb)
                             have n3_ := Aside0.mk (Kd.C_below (by repeat (first | (with_reducible exact HR322.out) | (with_reducible refine Kd.C_alloc ?_ _) | (with_reducible refine Kd.C_drewN ?_ _) | (with_reducible refine Kd.C_drew ?_) | exact HR322.out)) hb)
                             have n4_ := Aside0.mk (below_step (by repeat (first | (with_reducible first | exact HB.out | apply below_alloc | apply pw_below_drewN | apply below_drew1) | exact HB.out)) hb)
                             clear HO_10
                             clear HO_21
                             clear HO318
                             clear HR322
                             clear HB
                             have HO_10 := n0_
                             have HO_21 := n1_
                             have HO318 := n2_
                             have HR322 := n3_
                             have HB := n4_
                             clear n0_ n1_ n2_ n3_ n4_
                             (try clear hb)
                             (try clear hb2)
                             (try clear hk)
                             (try clear hi)
                             refine hK.out _ _ trivial (fun hHeld => ?_)
                             clear hK K
                             refine norm_ (a' := ?_) ?_ ?_
                             rotate_left
                             ·show Act.put _ (some 188) _ = _
                              simp only [Act.put, List.setIfInBounds_toArray, List.set_cons_zero, List.set_cons_succ, i64_w, i32_w]
                              rfl
                             refine pure_ (i := 24) (N := some 189) (v := ?_) (a' := ?_) #[true, true, true, true, true, true, true, true, true, true, true, true, true, true, true, true, true, true, true, true, true, true, true, true, true, false] rfl rfl (any_of HT_.out (by kernel_rfl)) (fun _ _ _ h => h) (Or.inl ⟨by rfl, ?_⟩) ?_ ?_
                             rotate_left
                             ·intro w'
                              go_simp
                              with_reducible rfl
                             rotate_left
                             ·simp only [Act.put, List.setIfInBounds_toArray, List.set_cons_zero, List.set_cons_succ, i64_w, i32_w]
                              rfl
                             refine pure_ (i := 25) (N := some 8) (v := ?_) (a' := ?_) #[true, true, true, true, true, true, true, true, true, true, true, true, true, true, true, true, true, true, true, true, true, true, true, true, true, true] rfl rfl (any_of HT_.out (by kernel_rfl)) (fun _ _ _ h => h) (Or.inl ⟨by rfl, ?_⟩) ?_ ?_
                             rotate_left
                             ·intro w'
                              go_simp
                              with_reducible rfl
                             rotate_left
                             ·simp only [Act.put, List.setIfInBounds_toArray, List.set_cons_zero, List.set_cons_succ, i64_w, i32_w]
                              rfl
                             refine done_ (done_of HT_.out (by kernel_rfl)) ?_
                             try go_wp2
                             go_ret
                             exact ⟨by first | rfl | (simp [errW_none, errW_some] <;> rfl) | (simp only [← hji27, ← hji61]; first | rfl | (simp [errW_none, errW_some] <;> rfl)) | (simp [*, errW_none, errW_some] <;> rfl), by repeat (first | (with_reducible first | exact HB.out | apply below_alloc | apply pw_below_drewN | apply below_drew1) | exact HB.out)⟩
                            ·rw [if_neg c83] at H
                             have c83b0 : (t325 == 0) = false := beq_eq_false_iff_ne.mpr c83
                             (try (have wc83b0_t324 : (t324 == 0) = false := by rw [Option.some.inj (A79.out.symm.trans A82.out)]; exact c83b0))
                             (try (have vc83b0_t324 : (t324 != 0) = true := by have h_ := wc83b0_t324; simpa using h_))
                             have c83b1 : (t325 != 0) = true := bne_iff_ne.mpr c83
                             obtain rfl := Option.some.inj H
                             have hcv92 := Kd.B_string (P := Try.prog) Try.underlying22 Try.underlying5 Try.underlying9 HO_21.out
                             try go_wp2_with (first | ((with_reducible refine gate_callee (f := 23) rfl ?_); refine goesL_ (some 161) rfl rfl Try.func23 (by kernel_rfl) rfl #[.string (strOfNums y312)] rfl (by (try simp only [List.map_toArray, List.map_cons, List.map_nil]); first | done | rfl | (simp only [List.length_drop, List.length_take]; rfl)) ?_; (with_reducible refine (frame_All.calls k4 (strOfNums y312) t314 t315 t316 _ A73.out).mono ?_); rintro e w93 ⟨v317, rfl, ho0, hb⟩; refine ⟨_, rfl, ?_⟩; have n0_ := Aside0.mk (Kd.R_below (by (with_reducible repeat (first | apply Kd.R_alloc | apply Kd.R_drewN | apply Kd.R_drew)); exact HO_10.out) hb); have n1_ := Aside0.mk (Kd.B_below (by (with_reducible repeat (first | apply Kd.B_alloc | apply Kd.B_drewN | apply Kd.B_drew)); exact HO_21.out) hb); have n2_ := Aside0.mk (Kd.R_lower ho0 (below_size (by repeat (first | (with_reducible first | exact HB.out | apply below_alloc | apply pw_below_drewN | apply below_drew1) | exact HB.out)))); have n3_ := Aside0.mk (below_step (by repeat (first | (with_reducible first | exact HB.out | apply below_alloc | apply pw_below_drewN | apply below_drew1) | exact HB.out)) hb); clear HO_10; clear HO_21; clear HB; have HO_10 := n0_; have HO_21 := n1_; have HO318 := n2_; have HB := n3_; clear n0_ n1_ n2_ n3_; (try clear hb); (try clear hb2); (try clear hk); (try clear hi); (try clear ho0)))
                             have n0_ := Aside0.mk (Kd.R_drew HO_10.out)
                             have n1_ := Aside0.mk (Kd.B_drew HO_21.out)
                             have n2_ := Aside0.mk (Kd.R_drew HO318.out)
                             have n3_ := Aside0.mk (below_drew1 HB.out)
                             clear HO_10
                             clear HO_21
                             clear HO318
                             clear HB
                             have HO_10 := n0_
                             have HO_21 := n1_
                             have HO318 := n2_
                             have HB := n3_
                             clear n0_ n1_ n2_ n3_
                             obtain ⟨Ao95, co95, eo95⟩ := Kd.R_slice HO318.out
                             (first | subst eo95 | (injection eo95 with f1_ f2_ f3_; have f4_ := f1_.symm; have f5_ := f3_.symm; clear f1_ f2_ f3_; subst f4_; subst f5_))
                             have q96 : (x23_4 : Int) ≤ ((t314.length : Int) : Int) := of_decide_eq_true (by first | (with_reducible assumption) | assumption)
                             obtain ⟨i096, hi096, _, hsz96, _⟩ := info_parts info9
                             have hroom96 : t314.length ≤ co95 := (Kd.R_reads' HO318.out).2.1
                             have hC96 : Kd.C Kd.string _ Ao95 t314.length t314 := (Kd.R_reads' HO318.out).2.2
                             have hcut96 := cut_to (P := Try.prog) 39 9 .i64 Try.underlying39 hi096 Ao95 t314.length co95 x23_4 (of_decide_eq_true (by first | (with_reducible assumption) | assumption)) q96 hroom96
                             have hr96 := Kd.C_take (m := (x23_4 : Int).toNat) hC96 (by omega)
                             have hy96 : y319.length = (x23_4 : Int).toNat := (by rw [Ny319.out, List.length_take]; omega)
                             rw [← Ny319.out] at hr96
                             rw [← hy96] at hcut96
                             have HR322 := Aside0.mk hr96
                             have HC322 := Aside0.mk (show y319.length ≤ co95 from by omega)
                             clear hr96 hC96 hroom96 hi096 hsz96
                             have KY96 := Aside0.mk hy96
                             clear hy96
                             have KL96 := Aside0.mk (show (x23_4 : Int).toNat ≤ t314.length from by omega)
                             replace q96 := eq_true q96
                             obtain ⟨i097, hi097, _, hsz97, _⟩ := info_parts info9
                             obtain ⟨hcut97, hA97, hC97⟩ := print_take_of (P := Try.prog) Value.string (⟨#[]⟩ : ByteArray) 39 9 .i64 Try.underlying39 hi097 hsz97 A0 c0 l0 x23_4 (of_decide_eq_true (by first | (with_reducible assumption) | assumption)) (of_decide_eq_true (by first | (with_reducible assumption) | assumption)) HC0.out
                             have HR323 := Aside0.mk (Kd.C_of_reads (h1 := fun _ => rfl) (hA97 _ (Kd.reads_of_C HR0.out)))
                             have HC323 := Aside0.mk hC97
                             clear hA97 hC97 hi097 hsz97
                             refine start_ (n := 26) (S := fun w' => True) (ds := []) #[false, false, false, false, false, false, false, false, false, false, false, false, false, false, false, false, false, false, false, false, false, false, false, false, false, false] (by kernel_rfl) rfl rfl trivial (fun hHeld => ?_); refine with_tabW boomeranglaw3_FrameCut.tab38 boomeranglaw3_FrameCut.bits38 (fun HT_ HW_ => ?_)
                             generalize w93.drew = w94 at HO_10 HO_21 HO318 HB HR322 HR323 hHeld ⊢
                             refine pure_ (i := 0) (N := some 165) (v := ?_) (a' := ?_) #[true, false, false, false, false, false, false, false, false, false, false, false, false, false, false, false, false, false, false, false, false, false, false, false, false, false] rfl rfl (any_of HT_.out (by kernel_rfl)) (fun _ _ _ h => h) (Or.inl ⟨by rfl, ?_⟩) ?_ ?_
                             rotate_left
                             ·intro w'
                              go_simp
                              with_reducible rfl
                             rotate_left
                             ·simp only [Act.put, List.setIfInBounds_toArray, List.set_cons_zero, List.set_cons_succ, i64_w, i32_w]
                              rfl
                             refine pure_ (i := 1) (N := some 166) (v := ?_) (a' := ?_) #[true, true, false, false, false, false, false, false, false, false, false, false, false, false, false, false, false, false, false, false, false, false, false, false, false, false] rfl rfl (any_of HT_.out (by kernel_rfl)) (fun _ _ _ h => h) (Or.inl ⟨by rfl, ?_⟩) ?_ ?_
                             rotate_left
                             ·intro w'
                              go_simp
                              with_reducible rfl
                             rotate_left
                             ·simp only [Act.put, List.setIfInBounds_toArray, List.set_cons_zero, List.set_cons_succ, i64_w, i32_w]
                              rfl
                             refine pure_ (i := 2) (N := some 167) (v := ?_) (a' := ?_) #[true, true, true, false, false, false, false, false, false, false, false, false, false, false, false, false, false, false, false, false, false, false, false, false, false, false] rfl rfl (any_of HT_.out (by kernel_rfl)) (fun _ _ _ h => h) (Or.inl ⟨by rfl, ?_⟩) ?_ ?_
                             rotate_left
                             ·intro w'
                              go_simp
                              with_reducible rfl
                             rotate_left
                             ·simp only [Act.put, List.setIfInBounds_toArray, List.set_cons_zero, List.set_cons_succ, i64_w, i32_w]
                              rfl
                             refine pure_ (i := 3) (N := some 168) (v := ?_) (a' := ?_) #[true, true, true, true, false, false, false, false, false, false, false, false, false, false, false, false, false, false, false, false, false, false, false, false, false, false] rfl rfl (any_of HT_.out (by kernel_rfl)) (fun _ _ _ h => h) (Or.inl ⟨by rfl, ?_⟩) ?_ ?_
                             rotate_left
                             ·intro w'
                              go_simp
                              with_reducible rfl
                             rotate_left
                             ·simp only [Act.put, List.setIfInBounds_toArray, List.set_cons_zero, List.set_cons_succ, i64_w, i32_w]
                              rfl
                             refine pure_ (i := 4) (N := some 169) (v := ?_) (a' := ?_) #[true, true, true, true, true, false, false, false, false, false, false, false, false, false, false, false, false, false, false, false, false, false, false, false, false, false] rfl rfl (any_of HT_.out (by kernel_rfl)) (fun _ _ _ h => h) (Or.inl ⟨by rfl, ?_⟩) ?_ ?_
                             rotate_left
                             ·intro w'
                              go_simp
                              with_reducible rfl
                             rotate_left
                             ·simp only [Act.put, List.setIfInBounds_toArray, List.set_cons_zero, List.set_cons_succ, i64_w, i32_w]
                              rfl
                             refine pure_ (i := 5) (N := some 170) (v := ?_) (a' := ?_) #[true, true, true, true, true, true, false, false, false, false, false, false, false, false, false, false, false, false, false, false, false, false, false, false, false, false] rfl rfl (any_of HT_.out (by kernel_rfl)) (fun _ _ _ h => h) (Or.inl ⟨by rfl, ?_⟩) ?_ ?_
                             rotate_left
                             ·intro w'
                              go_simp
                              with_reducible rfl
                             rotate_left
                             ·simp only [Act.put, List.setIfInBounds_toArray, List.set_cons_zero, List.set_cons_succ, i64_w, i32_w]
                              rfl
                             refine pure_ (i := 6) (N := some 171) (v := ?_) (a' := ?_) #[true, true, true, true, true, true, true, false, false, false, false, false, false, false, false, false, false, false, false, false, false, false, false, false, false, false] rfl rfl (any_of HT_.out (by kernel_rfl)) (fun _ _ _ h => h) (Or.inl ⟨by rfl, ?_⟩) ?_ ?_
                             rotate_left
                             ·intro w'
                              go_simp
                              with_reducible rfl
                             rotate_left
                             ·simp only [Act.put, List.setIfInBounds_toArray, List.set_cons_zero, List.set_cons_succ, i64_w, i32_w]
                              rfl
                             refine pure_ (i := 7) (N := some 172) (v := ?_) (a' := ?_) #[true, true, true, true, true, true, true, true, false, false, false, false, false, false, false, false, false, false, false, false, false, false, false, false, false, false] rfl rfl (any_of HT_.out (by kernel_rfl)) (fun _ _ _ h => h) (Or.inl ⟨by rfl, ?_⟩) ?_ ?_
                             rotate_left
                             ·intro w'
                              go_simp
                              with_reducible rfl
                             rotate_left
                             ·simp only [Act.put, List.setIfInBounds_toArray, List.set_cons_zero, List.set_cons_succ, i64_w, i32_w]
                              rfl
                             refine pure_ (i := 8) (N := some 173) (v := ?_) (a' := ?_) #[true, true, true, true, true, true, true, true, true, false, false, false, false, false, false, false, false, false, false, false, false, false, false, false, false, false] rfl rfl (any_of HT_.out (by kernel_rfl)) (fun _ _ _ h => h) (Or.inl ⟨by rfl, ?_⟩) ?_ ?_
                             rotate_left
                             ·intro w'
                              go_simp
                              with_reducible rfl
                             rotate_left
                             ·simp only [Act.put, List.setIfInBounds_toArray, List.set_cons_zero, List.set_cons_succ, i64_w, i32_w]
                              rfl
                             refine pure_ (i := 9) (N := some 174) (v := ?_) (a' := ?_) #[true, true, true, true, true, true, true, true, true, true, false, false, false, false, false, false, false, false, false, false, false, false, false, false, false, false] rfl rfl (any_of HT_.out (by kernel_rfl)) (fun _ _ _ h => h) (Or.inl ⟨by rfl, ?_⟩) ?_ ?_
                             rotate_left
                             ·intro w'
                              go_simp
                              with_reducible rfl
                             rotate_left
                             ·simp only [Act.put, List.setIfInBounds_toArray, List.set_cons_zero, List.set_cons_succ, i64_w, i32_w]
                              rfl
                             refine pure_ (i := 10) (N := some 175) (v := ?_) (a' := ?_) #[true, true, true, true, true, true, true, true, true, true, true, false, false, false, false, false, false, false, false, false, false, false, false, false, false, false] rfl rfl (any_of HT_.out (by kernel_rfl)) (fun _ _ _ h => h) (Or.inl ⟨by rfl, ?_⟩) ?_ ?_
                             rotate_left
                             ·intro w'
                              go_simp
                              with_reducible rfl
                             rotate_left
                             ·simp only [Act.put, List.setIfInBounds_toArray, List.set_cons_zero, List.set_cons_succ, i64_w, i32_w]
                              rfl
                             refine one_ (i := 11) (N := some 176) #[true, true, true, true, true, true, true, true, true, true, true, true, false, false, false, false, false, false, false, false, false, false, false, false, false, false] rfl rfl (one_of HT_.out (by kernel_rfl)) (by decide) (fun K hK => ?_)
                             refine goes_ Try.func25 (by kernel_rfl) rfl #[.slice Ao95 y319.length co95, .slice A0 (l0.take (x23_4 : Int).toNat).length c0] (by rfl) rfl rfl (by (try simp only [List.map_toArray, List.map_cons, List.map_nil]); first | done | (rw [show (l0.take (x23_4 : Int).toNat).length = x23_4.toNat from (by rw [List.length_take]; have h_ : (x23_4 : Int) ≤ (l0.length : Int) := of_decide_eq_true (by first | (with_reducible assumption) | assumption); omega)] <;> rfl) | rfl | (simp only [List.length_drop, List.length_take]; rfl)) ?_
                             with_reducible refine (boomerangref1_SameTexts.calls k4 _ _ y319 _ _ (l0.take (x23_4 : Int).toNat) true _ ?side1 ?side2 ?side3 ?side4 A79.out).mono ?_
                             (case side1 => repeat (first | exact (by repeat (first | (with_reducible exact HR322.out) | (with_reducible refine Kd.C_alloc ?_ _) | (with_reducible refine Kd.C_drewN ?_ _) | (with_reducible refine Kd.C_drew ?_) | exact HR322.out)) | (with_reducible refine Kd.C_alloc ?_ _) | (with_reducible refine Kd.C_drewN ?_ _) | (with_reducible refine Kd.C_drew ?_)))
                             (case side2 => exact HC322.out)
                             (case side3 => repeat (first | exact (Kd.C_below HR323.out HB.out) | (with_reducible refine Kd.C_alloc ?_ _) | (with_reducible refine Kd.C_drewN ?_ _) | (with_reducible refine Kd.C_drew ?_)))
                             (case side4 => exact HC323.out)
                             rintro e w' ⟨rfl, ⟨nd, rfl⟩⟩
                             refine ⟨_, rfl, ?_⟩
                             refine hK.out _ _ trivial (fun hHeld => ?_)
                             clear hK K
                             refine norm_ (a' := ?_) ?_ ?_
                             rotate_left
                             ·show Act.put _ (some 176) _ = _
                              simp only [Act.put, List.setIfInBounds_toArray, List.set_cons_zero, List.set_cons_succ, i64_w, i32_w]
                              rfl
                             refine pure_ (i := 12) (N := some 177) (v := ?_) (a' := ?_) #[true, true, true, true, true, true, true, true, true, true, true, true, true, false, false, false, false, false, false, false, false, false, false, false, false, false] rfl rfl (any_of HT_.out (by kernel_rfl)) (fun _ _ _ h => h) (Or.inl ⟨by rfl, ?_⟩) ?_ ?_
                             rotate_left
                             ·intro w'
                              go_simp
                              with_reducible rfl
                             rotate_left
                             ·simp only [Act.put, List.setIfInBounds_toArray, List.set_cons_zero, List.set_cons_succ, i64_w, i32_w]
                              rfl
                             refine pure_ (i := 13) (N := some 178) (v := ?_) (a' := ?_) #[true, true, true, true, true, true, true, true, true, true, true, true, true, true, false, false, false, false, false, false, false, false, false, false, false, false] rfl rfl (any_of HT_.out (by kernel_rfl)) (fun _ _ _ h => h) (Or.inl ⟨by rfl, ?_⟩) ?_ ?_
                             rotate_left
                             ·intro w'
                              go_simp
                              with_reducible rfl
                             rotate_left
                             ·simp only [Act.put, List.setIfInBounds_toArray, List.set_cons_zero, List.set_cons_succ, i64_w, i32_w]
                              rfl
                             refine pure_ (i := 14) (N := some 179) (v := ?_) (a' := ?_) #[true, true, true, true, true, true, true, true, true, true, true, true, true, true, true, false, false, false, false, false, false, false, false, false, false, false] rfl rfl (any_of HT_.out (by kernel_rfl)) (fun _ _ _ h => h) (Or.inl ⟨by rfl, ?_⟩) ?_ ?_
                             rotate_left
                             ·intro w'
                              go_simp
                              with_reducible rfl
                             rotate_left
                             ·simp only [Act.put, List.setIfInBounds_toArray, List.set_cons_zero, List.set_cons_succ, i64_w, i32_w]
                              rfl
                             refine pure_ (i := 15) (N := some 180) (v := ?_) (a' := ?_) #[true, true, true, true, true, true, true, true, true, true, true, true, true, true, true, true, false, false, false, false, false, false, false, false, false, false] rfl rfl (any_of HT_.out (by kernel_rfl)) (fun _ _ _ h => h) (Or.inl ⟨by rfl, ?_⟩) ?_ ?_
                             rotate_left
                             ·intro w'
                              go_simp
                              with_reducible rfl
                             rotate_left
                             ·simp only [Act.put, List.setIfInBounds_toArray, List.set_cons_zero, List.set_cons_succ, i64_w, i32_w]
                              rfl
                             refine pure_ (i := 16) (N := some 181) (v := ?_) (a' := ?_) #[true, true, true, true, true, true, true, true, true, true, true, true, true, true, true, true, true, false, false, false, false, false, false, false, false, false] rfl rfl (any_of HT_.out (by kernel_rfl)) (fun _ _ _ h => h) (Or.inl ⟨by rfl, ?_⟩) ?_ ?_
                             rotate_left
                             ·intro w'
                              go_simp
                              with_reducible rfl
                             rotate_left
                             ·simp only [Act.put, List.setIfInBounds_toArray, List.set_cons_zero, List.set_cons_succ, i64_w, i32_w]
                              rfl
                             refine pure_ (i := 17) (N := some 182) (v := ?_) (a' := ?_) #[true, true, true, true, true, true, true, true, true, true, true, true, true, true, true, true, true, true, false, false, false, false, false, false, false, false] rfl rfl (any_of HT_.out (by kernel_rfl)) (fun _ _ _ h => h) (Or.inl ⟨by rfl, ?_⟩) ?_ ?_
                             rotate_left
                             ·intro w'
                              go_simp
                              with_reducible rfl
                             rotate_left
                             ·simp only [Act.put, List.setIfInBounds_toArray, List.set_cons_zero, List.set_cons_succ, i64_w, i32_w]
                              rfl
                             refine one_ (i := 18) (N := some 183) #[true, true, true, true, true, true, true, true, true, true, true, true, true, true, true, true, true, true, true, false, false, false, false, false, false, false] rfl rfl (one_of HT_.out (by kernel_rfl)) (by decide) (fun K hK => ?_)
                             refine goes_ Try.func19 (by kernel_rfl) rfl #[.int .i64 t316] (by rfl) rfl rfl (by (try simp only [List.map_toArray, List.map_cons, List.map_nil]); first | done | rfl | (simp only [List.length_drop, List.length_take]; rfl)) ?_
                             with_reducible refine (boomeranglaw1_Err.calls t316 t325 _ A82.out).mono ?_
                             rintro e w' ⟨rfl, ⟨nd, rfl⟩⟩
                             refine ⟨_, rfl, ?_⟩
                             refine hK.out _ _ trivial (fun hHeld => ?_)
                             clear hK K
                             refine norm_ (a' := ?_) ?_ ?_
                             rotate_left
                             ·show Act.put _ (some 183) _ = _
                              simp only [Act.put, List.setIfInBounds_toArray, List.set_cons_zero, List.set_cons_succ, i64_w, i32_w]
                              rfl
                             refine pure_ (i := 19) (N := some 184) (v := ?_) (a' := ?_) #[true, true, true, true, true, true, true, true, true, true, true, true, true, true, true, true, true, true, true, true, false, false, false, false, false, false] rfl rfl (any_of HT_.out (by kernel_rfl)) (fun _ _ _ h => h) (Or.inl ⟨by rfl, ?_⟩) ?_ ?_
                             rotate_left
                             ·intro w'
                              go_simp
                              with_reducible rfl
                             rotate_left
                             ·simp only [Act.put, List.setIfInBounds_toArray, List.set_cons_zero, List.set_cons_succ, i64_w, i32_w]
                              rfl
                             refine pure_ (i := 20) (N := some 185) (v := ?_) (a' := ?_) #[true, true, true, true, true, true, true, true, true, true, true, true, true, true, true, true, true, true, true, true, true, false, false, false, false, false] rfl rfl (any_of HT_.out (by kernel_rfl)) (fun _ _ _ h => h) (Or.inl ⟨by rfl, ?_⟩) ?_ ?_
                             rotate_left
                             ·intro w'
                              go_simp
                              with_reducible rfl
                             rotate_left
                             ·simp only [Act.put, List.setIfInBounds_toArray, List.set_cons_zero, List.set_cons_succ, i64_w, i32_w]
                              rfl
                             refine pure_ (i := 21) (N := some 186) (v := ?_) (a' := ?_) #[true, true, true, true, true, true, true, true, true, true, true, true, true, true, true, true, true, true, true, true, true, true, false, false, false, false] rfl rfl (any_of HT_.out (by kernel_rfl)) (fun _ _ _ h => h) (Or.inl ⟨by rfl, ?_⟩) ?_ ?_
                             rotate_left
                             ·intro w'
                              go_simp
                              with_reducible rfl
                             rotate_left
                             ·simp only [Act.put, List.setIfInBounds_toArray, List.set_cons_zero, List.set_cons_succ, i64_w, i32_w]
                              rfl
                             refine pure_ (i := 22) (N := some 187) (v := ?_) (a' := ?_) #[true, true, true, true, true, true, true, true, true, true, true, true, true, true, true, true, true, true, true, true, true, true, true, false, false, false] rfl rfl (any_of HT_.out (by kernel_rfl)) (fun _ _ _ h => h) (Or.inl ⟨by rfl, ?_⟩) ?_ ?_
                             rotate_left
                             ·intro w'
                              go_simp
                              with_reducible rfl
                             rotate_left
                             ·simp only [Act.put, List.setIfInBounds_toArray, List.set_cons_zero, List.set_cons_succ, i64_w, i32_w]
                              rfl
                             refine pure_ (i := 23) (N := some 188) (v := undef) (a' := ?_) #[true, true, true, true, true, true, true, true, true, true, true, true, true, true, true, true, true, true, true, true, true, true, true, true, false, false] rfl rfl (any_of HT_.out (by kernel_rfl)) (fun _ _ _ h => h) (Or.inr ⟨by rfl, rfl⟩) ?_ ?_
                             rotate_left
                             ·simp only [Act.put, List.setIfInBounds_toArray, List.set_cons_zero, List.set_cons_succ, i64_w, i32_w]
                              rfl
                             refine pure_ (i := 24) (N := some 189) (v := ?_) (a' := ?_) #[true, true, true, true, true, true, true, true, true, true, true, true, true, true, true, true, true, true, true, true, true, true, true, true, true, false] rfl rfl (any_of HT_.out (by kernel_rfl)) (fun _ _ _ h => h) (Or.inl ⟨by rfl, ?_⟩) ?_ ?_
                             rotate_left
                             ·intro w'
                              go_simp
                              with_reducible rfl
                             rotate_left
                             ·simp only [Act.put, List.setIfInBounds_toArray, List.set_cons_zero, List.set_cons_succ, i64_w, i32_w]
                              rfl
                             refine pure_ (i := 25) (N := some 8) (v := ?_) (a' := ?_) #[true, true, true, true, true, true, true, true, true, true, true, true, true, true, true, true, true, true, true, true, true, true, true, true, true, true] rfl rfl (any_of HT_.out (by kernel_rfl)) (fun _ _ _ h => h) (Or.inl ⟨by rfl, ?_⟩) ?_ ?_
                             rotate_left
                             ·intro w'
                              go_simp
                              with_reducible rfl
                             rotate_left
                             ·simp only [Act.put, List.setIfInBounds_toArray, List.set_cons_zero, List.set_cons_succ, i64_w, i32_w]
                              rfl
                             refine done_ (done_of HT_.out (by kernel_rfl)) ?_
                             try go_wp2
                             go_ret
                             exact ⟨by first | rfl | (simp [errW_none, errW_some] <;> rfl) | (simp only [← hji27, ← hji61]; first | rfl | (simp [errW_none, errW_some] <;> rfl)) | (simp [*, errW_none, errW_some] <;> rfl), by repeat (first | (with_reducible first | exact HB.out | apply below_alloc | apply pw_below_drewN | apply below_drew1) | exact HB.out)⟩
                           ·rw [if_neg c81] at H
                            have c81b0 : (a3 == 0) = false := beq_eq_false_iff_ne.mpr c81
                            have c81b1 : (a3 != 0) = true := bne_iff_ne.mpr c81
                            replace H := Option.bind_eq_some_iff.mp H
                            obtain ⟨t327, A980, H⟩ := H
                            replace H : (some t327) = some r := H
                            have A98 := Aside0.mk A980
                            clear A980
                            obtain rfl := Option.some.inj H
                            have hcv99 := Kd.B_string (P := Try.prog) Try.underlying22 Try.underlying5 Try.underlying9 HO_21.out
                            try go_wp2_with (first | ((with_reducible refine gate_callee (f := 23) rfl ?_); refine goesL_ (some 161) rfl rfl Try.func23 (by kernel_rfl) rfl #[.string (strOfNums y312)] rfl (by (try simp only [List.map_toArray, List.map_cons, List.map_nil]); first | done | rfl | (simp only [List.length_drop, List.length_take]; rfl)) ?_; (with_reducible refine (frame_All.calls k4 (strOfNums y312) t314 t315 t316 _ A73.out).mono ?_); rintro e w100 ⟨v317, rfl, ho0, hb⟩; refine ⟨_, rfl, ?_⟩; have n0_ := Aside0.mk (Kd.R_below (by (with_reducible repeat (first | apply Kd.R_alloc | apply Kd.R_drewN | apply Kd.R_drew)); exact HO_10.out) hb); have n1_ := Aside0.mk (Kd.B_below (by (with_reducible repeat (first | apply Kd.B_alloc | apply Kd.B_drewN | apply Kd.B_drew)); exact HO_21.out) hb); have n2_ := Aside0.mk (Kd.R_lower ho0 (below_size (by repeat (first | (with_reducible first | exact HB.out | apply below_alloc | apply pw_below_drewN | apply below_drew1) | exact HB.out)))); have n3_ := Aside0.mk (below_step (by repeat (first | (with_reducible first | exact HB.out | apply below_alloc | apply pw_below_drewN | apply below_drew1) | exact HB.out)) hb); clear HO_10; clear HO_21; clear HB; have HO_10 := n0_; have HO_21 := n1_; have HO318 := n2_; have HB := n3_; clear n0_ n1_ n2_ n3_; (try clear hb); (try clear hb2); (try clear hk); (try clear hi); (try clear ho0)))
                            have n0_ := Aside0.mk (Kd.R_drew HO_10.out)
                            have n1_ := Aside0.mk (Kd.B_drew HO_21.out)
                            have n2_ := Aside0.mk (Kd.R_drew HO318.out)
                            have n3_ := Aside0.mk (below_drew1 HB.out)
                            clear HO_10
                            clear HO_21
                            clear HO318
                            clear HB
                            have HO_10 := n0_
                            have HO_21 := n1_
                            have HO318 := n2_
                            have HB := n3_
                            clear n0_ n1_ n2_ n3_
                            obtain ⟨Ao102, co102, eo102⟩ := Kd.R_slice HO318.out
                            (first | subst eo102 | (injection eo102 with f1_ f2_ f3_; have f4_ := f1_.symm; have f5_ := f3_.symm; clear f1_ f2_ f3_; subst f4_; subst f5_))
                            have q103 : (x23_4 : Int) ≤ ((t314.length : Int) : Int) := of_decide_eq_true (by first | (with_reducible assumption) | assumption)
                            obtain ⟨i0103, hi0103, _, hsz103, _⟩ := info_parts info9
                            have hroom103 : t314.length ≤ co102 := (Kd.R_reads' HO318.out).2.1
                            have hC103 : Kd.C Kd.string _ Ao102 t314.length t314 := (Kd.R_reads' HO318.out).2.2
                            have hcut103 := cut_to (P := Try.prog) 39 9 .i64 Try.underlying39 hi0103 Ao102 t314.length co102 x23_4 (of_decide_eq_true (by first | (with_reducible assumption) | assumption)) q103 hroom103
                            have hr103 := Kd.C_take (m := (x23_4 : Int).toNat) hC103 (by omega)
                            have hy103 : y319.length = (x23_4 : Int).toNat := (by rw [Ny319.out, List.length_take]; omega)
                            rw [← Ny319.out] at hr103
                            rw [← hy103] at hcut103
                            have HR322 := Aside0.mk hr103
                            have HC322 := Aside0.mk (show y319.length ≤ co102 from by omega)
                            clear hr103 hC103 hroom103 hi0103 hsz103
                            have KY103 := Aside0.mk hy103
                            clear hy103
                            have KL103 := Aside0.mk (show (x23_4 : Int).toNat ≤ t314.length from by omega)
                            replace q103 := eq_true q103
                            obtain ⟨i0104, hi0104, _, hsz104, _⟩ := info_parts info9
                            obtain ⟨hcut104, hA104, hC104⟩ := print_take_of (P := Try.prog) Value.string (⟨#[]⟩ : ByteArray) 39 9 .i64 Try.underlying39 hi0104 hsz104 A0 c0 l0 x23_4 (of_decide_eq_true (by first | (with_reducible assumption) | assumption)) (of_decide_eq_true (by first | (with_reducible assumption) | assumption)) HC0.out
                            have HR323 := Aside0.mk (Kd.C_of_reads (h1 := fun _ => rfl) (hA104 _ (Kd.reads_of_C HR0.out)))
                            have HC323 := Aside0.mk hC104
                            clear hA104 hC104 hi0104 hsz104
                            refine start_ (n := 26) (S := fun w' => True) (ds := []) #[false, false, false, false, false, false, false, false, false, false, false, false, false, false, false, false, false, false, false, false, false, false, false, false, false, false] (by kernel_rfl) rfl rfl trivial (fun hHeld => ?_); refine with_tabW boomeranglaw3_FrameCut.tab38 boomeranglaw3_FrameCut.bits38 (fun HT_ HW_ => ?_)
                            generalize w100.drew = w101 at HO_10 HO_21 HO318 HB HR322 HR323 hHeld ⊢
                            refine pure_ (i := 0) (N := some 165) (v := ?_) (a' := ?_) #[true, false, false, false, false, false, false, false, false, false, false, false, false, false, false, false, false, false, false, false, false, false, false, false, false, false] rfl rfl (any_of HT_.out (by kernel_rfl)) (fun _ _ _ h => h) (Or.inl ⟨by rfl, ?_⟩) ?_ ?_
                            rotate_left
                            ·intro w'
                             go_simp
                             with_reducible rfl
                            rotate_left
                            ·simp only [Act.put, List.setIfInBounds_toArray, List.set_cons_zero, List.set_cons_succ, i64_w, i32_w]
                             rfl
                            refine pure_ (i := 1) (N := some 166) (v := ?_) (a' := ?_) #[true, true, false, false, false, false, false, false, false, false, false, false, false, false, false, false, false, false, false, false, false, false, false, false, false, false] rfl rfl (any_of HT_.out (by kernel_rfl)) (fun _ _ _ h => h) (Or.inl ⟨by rfl, ?_⟩) ?_ ?_
                            rotate_left
                            ·intro w'
                             go_simp
                             with_reducible rfl
                            rotate_left
                            ·simp only [Act.put, List.setIfInBounds_toArray, List.set_cons_zero, List.set_cons_succ, i64_w, i32_w]
                             rfl
                            refine pure_ (i := 2) (N := some 167) (v := ?_) (a' := ?_) #[true, true, true, false, false, false, false, false, false, false, false, false, false, false, false, false, false, false, false, false, false, false, false, false, false, false] rfl rfl (any_of HT_.out (by kernel_rfl)) (fun _ _ _ h => h) (Or.inl ⟨by rfl, ?_⟩) ?_ ?_
                            rotate_left
                            ·intro w'
                             go_simp
                             with_reducible rfl
                            rotate_left
                            ·simp only [Act.put, List.setIfInBounds_toArray, List.set_cons_zero, List.set_cons_succ, i64_w, i32_w]
                             rfl
                            refine pure_ (i := 3) (N := some 168) (v := ?_) (a' := ?_) #[true, true, true, true, false, false, false, false, false, false, false, false, false, false, false, false, false, false, false, false, false, false, false, false, false, false] rfl rfl (any_of HT_.out (by kernel_rfl)) (fun _ _ _ h => h) (Or.inl ⟨by rfl, ?_⟩) ?_ ?_
                            rotate_left
                            ·intro w'
                             go_simp
                             with_reducible rfl
                            rotate_left
                            ·simp only [Act.put, List.setIfInBounds_toArray, List.set_cons_zero, List.set_cons_succ, i64_w, i32_w]
                             rfl
                            refine pure_ (i := 4) (N := some 169) (v := ?_) (a' := ?_) #[true, true, true, true, true, false, false, false, false, false, false, false, false, false, false, false, false, false, false, false, false, false, false, false, false, false] rfl rfl (any_of HT_.out (by kernel_rfl)) (fun _ _ _ h => h) (Or.inl ⟨by rfl, ?_⟩) ?_ ?_
                            rotate_left
                            ·intro w'
                             go_simp
                             with_reducible rfl
                            rotate_left
                            ·simp only [Act.put, List.setIfInBounds_toArray, List.set_cons_zero, List.set_cons_succ, i64_w, i32_w]
                             rfl
                            refine pure_ (i := 5) (N := some 170) (v := ?_) (a' := ?_) #[true, true, true, true, true, true, false, false, false, false, false, false, false, false, false, false, false, false, false, false, false, false, false, false, false, false] rfl rfl (any_of HT_.out (by kernel_rfl)) (fun _ _ _ h => h) (Or.inl ⟨by rfl, ?_⟩) ?_ ?_
                            rotate_left
                            ·intro w'
                             go_simp
                             with_reducible rfl
                            rotate_left
                            ·simp only [Act.put, List.setIfInBounds_toArray, List.set_cons_zero, List.set_cons_succ, i64_w, i32_w]
                             rfl
                            refine pure_ (i := 6) (N := some 171) (v := ?_) (a' := ?_) #[true, true, true, true, true, true, true, false, false, false, false, false, false, false, false, false, false, false, false, false, false, false, false, false, false, false] rfl rfl (any_of HT_.out (by kernel_rfl)) (fun _ _ _ h => h) (Or.inl ⟨by rfl, ?_⟩) ?_ ?_
                            rotate_left
                            ·intro w'
                             go_simp
                             with_reducible rfl
                            rotate_left
                            ·simp only [Act.put, List.setIfInBounds_toArray, List.set_cons_zero, List.set_cons_succ, i64_w, i32_w]
                             rfl
                            refine pure_ (i := 7) (N := some 172) (v := ?_) (a' := ?_) #[true, true, true, true, true, true, true, true, false, false, false, false, false, false, false, false, false, false, false, false, false, false, false, false, false, false] rfl rfl (any_of HT_.out (by kernel_rfl)) (fun _ _ _ h => h) (Or.inl ⟨by rfl, ?_⟩) ?_ ?_
                            rotate_left
                            ·intro w'
                             go_simp
                             with_reducible rfl
                            rotate_left
                            ·simp only [Act.put, List.setIfInBounds_toArray, List.set_cons_zero, List.set_cons_succ, i64_w, i32_w]
                             rfl
                            refine pure_ (i := 8) (N := some 173) (v := ?_) (a' := ?_) #[true, true, true, true, true, true, true, true, true, false, false, false, false, false, false, false, false, false, false, false, false, false, false, false, false, false] rfl rfl (any_of HT_.out (by kernel_rfl)) (fun _ _ _ h => h) (Or.inl ⟨by rfl, ?_⟩) ?_ ?_
                            rotate_left
                            ·intro w'
                             go_simp
                             with_reducible rfl
                            rotate_left
                            ·simp only [Act.put, List.setIfInBounds_toArray, List.set_cons_zero, List.set_cons_succ, i64_w, i32_w]
                             rfl
                            refine pure_ (i := 9) (N := some 174) (v := ?_) (a' := ?_) #[true, true, true, true, true, true, true, true, true, true, false, false, false, false, false, false, false, false, false, false, false, false, false, false, false, false] rfl rfl (any_of HT_.out (by kernel_rfl)) (fun _ _ _ h => h) (Or.inl ⟨by rfl, ?_⟩) ?_ ?_
                            rotate_left
                            ·intro w'
                             go_simp
                             with_reducible rfl
                            rotate_left
                            ·simp only [Act.put, List.setIfInBounds_toArray, List.set_cons_zero, List.set_cons_succ, i64_w, i32_w]
                             rfl
                            refine pure_ (i := 10) (N := some 175) (v := ?_) (a' := ?_) #[true, true, true, true, true, true, true, true, true, true, true, false, false, false, false, false, false, false, false, false, false, false, false, false, false, false] rfl rfl (any_of HT_.out (by kernel_rfl)) (fun _ _ _ h => h) (Or.inl ⟨by rfl, ?_⟩) ?_ ?_
                            rotate_left
                            ·intro w'
                             go_simp
                             with_reducible rfl
                            rotate_left
                            ·simp only [Act.put, List.setIfInBounds_toArray, List.set_cons_zero, List.set_cons_succ, i64_w, i32_w]
                             rfl
                            refine one_ (i := 11) (N := some 176) #[true, true, true, true, true, true, true, true, true, true, true, true, false, false, false, false, false, false, false, false, false, false, false, false, false, false] rfl rfl (one_of HT_.out (by kernel_rfl)) (by decide) (fun K hK => ?_)
                            refine goes_ Try.func25 (by kernel_rfl) rfl #[.slice Ao102 y319.length co102, .slice A0 (l0.take (x23_4 : Int).toNat).length c0] (by rfl) rfl rfl (by (try simp only [List.map_toArray, List.map_cons, List.map_nil]); first | done | (rw [show (l0.take (x23_4 : Int).toNat).length = x23_4.toNat from (by rw [List.length_take]; have h_ : (x23_4 : Int) ≤ (l0.length : Int) := of_decide_eq_true (by first | (with_reducible assumption) | assumption); omega)] <;> rfl) | rfl | (simp only [List.length_drop, List.length_take]; rfl)) ?_
                            with_reducible refine (boomerangref1_SameTexts.calls k4 _ _ y319 _ _ (l0.take (x23_4 : Int).toNat) true _ ?side1 ?side2 ?side3 ?side4 A79.out).mono ?_
                            (case side1 => repeat (first | exact (by repeat (first | (with_reducible exact HR322.out) | (with_reducible refine Kd.C_alloc ?_ _) | (with_reducible refine Kd.C_drewN ?_ _) | (with_reducible refine Kd.C_drew ?_) | exact HR322.out)) | (with_reducible refine Kd.C_alloc ?_ _) | (with_reducible refine Kd.C_drewN ?_ _) | (with_reducible refine Kd.C_drew ?_)))
                            (case side2 => exact HC322.out)
                            (case side3 => repeat (first | exact (Kd.C_below HR323.out HB.out) | (with_reducible refine Kd.C_alloc ?_ _) | (with_reducible refine Kd.C_drewN ?_ _) | (with_reducible refine Kd.C_drew ?_)))
                            (case side4 => exact HC323.out)
                            rintro e w' ⟨rfl, ⟨nd, rfl⟩⟩
                            refine ⟨_, rfl, ?_⟩
                            refine hK.out _ _ trivial (fun hHeld => ?_)
                            clear hK K
                            refine norm_ (a' := ?_) ?_ ?_
                            rotate_left
                            ·show Act.put _ (some 176) _ = _
                             simp only [Act.put, List.setIfInBounds_toArray, List.set_cons_zero, List.set_cons_succ, i64_w, i32_w]
                             rfl
                            refine pure_ (i := 12) (N := some 177) (v := ?_) (a' := ?_) #[true, true, true, true, true, true, true, true, true, true, true, true, true, false, false, false, false, false, false, false, false, false, false, false, false, false] rfl rfl (any_of HT_.out (by kernel_rfl)) (fun _ _ _ h => h) (Or.inl ⟨by rfl, ?_⟩) ?_ ?_
                            rotate_left
                            ·intro w'
                             go_simp
                             with_reducible rfl
                            rotate_left
                            ·simp only [Act.put, List.setIfInBounds_toArray, List.set_cons_zero, List.set_cons_succ, i64_w, i32_w]
                             rfl
                            refine pure_ (i := 13) (N := some 178) (v := ?_) (a' := ?_) #[true, true, true, true, true, true, true, true, true, true, true, true, true, true, false, false, false, false, false, false, false, false, false, false, false, false] rfl rfl (any_of HT_.out (by kernel_rfl)) (fun _ _ _ h => h) (Or.inl ⟨by rfl, ?_⟩) ?_ ?_
                            rotate_left
                            ·intro w'
                             go_simp
                             with_reducible rfl
                            rotate_left
                            ·simp only [Act.put, List.setIfInBounds_toArray, List.set_cons_zero, List.set_cons_succ, i64_w, i32_w]
                             rfl
                            refine pure_ (i := 14) (N := some 179) (v := ?_) (a' := ?_) #[true, true, true, true, true, true, true, true, true, true, true, true, true, true, true, false, false, false, false, false, false, false, false, false, false, false] rfl rfl (any_of HT_.out (by kernel_rfl)) (fun _ _ _ h => h) (Or.inl ⟨by rfl, ?_⟩) ?_ ?_
                            rotate_left
                            ·intro w'
                             go_simp
                             with_reducible rfl
                            rotate_left
                            ·simp only [Act.put, List.setIfInBounds_toArray, List.set_cons_zero, List.set_cons_succ, i64_w, i32_w]
                             rfl
                            refine pure_ (i := 15) (N := some 180) (v := ?_) (a' := ?_) #[true, true, true, true, true, true, true, true, true, true, true, true, true, true, true, true, false, false, false, false, false, false, false, false, false, false] rfl rfl (any_of HT_.out (by kernel_rfl)) (fun _ _ _ h => h) (Or.inl ⟨by rfl, ?_⟩) ?_ ?_
                            rotate_left
                            ·intro w'
                             go_simp
                             with_reducible rfl
                            rotate_left
                            ·simp only [Act.put, List.setIfInBounds_toArray, List.set_cons_zero, List.set_cons_succ, i64_w, i32_w]
                             rfl
                            refine pure_ (i := 16) (N := some 181) (v := ?_) (a' := ?_) #[true, true, true, true, true, true, true, true, true, true, true, true, true, true, true, true, true, false, false, false, false, false, false, false, false, false] rfl rfl (any_of HT_.out (by kernel_rfl)) (fun _ _ _ h => h) (Or.inl ⟨by rfl, ?_⟩) ?_ ?_
                            rotate_left
                            ·intro w'
                             go_simp
                             with_reducible rfl
                            rotate_left
                            ·simp only [Act.put, List.setIfInBounds_toArray, List.set_cons_zero, List.set_cons_succ, i64_w, i32_w]
                             rfl
                            refine pure_ (i := 17) (N := some 182) (v := undef) (a' := ?_) #[true, true, true, true, true, true, true, true, true, true, true, true, true, true, true, true, true, true, false, false, false, false, false, false, false, false] rfl rfl (any_of HT_.out (by kernel_rfl)) (fun _ _ _ h => h) (Or.inr ⟨by rfl, rfl⟩) ?_ ?_
                            rotate_left
                            ·simp only [Act.put, List.setIfInBounds_toArray, List.set_cons_zero, List.set_cons_succ, i64_w, i32_w]
                             rfl
                            refine pure_ (i := 18) (N := some 183) (v := undef) (a' := ?_) #[true, true, true, true, true, true, true, true, true, true, true, true, true, true, true, true, true, true, true, false, false, false, false, false, false, false] rfl rfl (any_of HT_.out (by kernel_rfl)) (fun _ _ _ h => h) (Or.inr ⟨by rfl, rfl⟩) ?_ ?_
                            rotate_left
                            ·simp only [Act.put, List.setIfInBounds_toArray, List.set_cons_zero, List.set_cons_succ, i64_w, i32_w]
                             rfl
                            refine pure_ (i := 19) (N := some 184) (v := undef) (a' := ?_) #[true, true, true, true, true, true, true, true, true, true, true, true, true, true, true, true, true, true, true, true, false, false, false, false, false, false] rfl rfl (any_of HT_.out (by kernel_rfl)) (fun _ _ _ h => h) (Or.inr ⟨by rfl, rfl⟩) ?_ ?_
                            rotate_left
                            ·simp only [Act.put, List.setIfInBounds_toArray, List.set_cons_zero, List.set_cons_succ, i64_w, i32_w]
                             rfl
                            refine pure_ (i := 20) (N := some 185) (v := ?_) (a' := ?_) #[true, true, true, true, true, true, true, true, true, true, true, true, true, true, true, true, true, true, true, true, true, false, false, false, false, false] rfl rfl (any_of HT_.out (by kernel_rfl)) (fun _ _ _ h => h) (Or.inl ⟨by rfl, ?_⟩) ?_ ?_
                            rotate_left
                            ·intro w'
                             go_simp
                             with_reducible rfl
                            rotate_left
                            ·simp only [Act.put, List.setIfInBounds_toArray, List.set_cons_zero, List.set_cons_succ, i64_w, i32_w]
                             rfl
                            refine pure_ (i := 21) (N := some 186) (v := ?_) (a' := ?_) #[true, true, true, true, true, true, true, true, true, true, true, true, true, true, true, true, true, true, true, true, true, true, false, false, false, false] rfl rfl (any_of HT_.out (by kernel_rfl)) (fun _ _ _ h => h) (Or.inl ⟨by rfl, ?_⟩) ?_ ?_
                            rotate_left
                            ·intro w'
                             go_simp
                             with_reducible rfl
                            rotate_left
                            ·simp only [Act.put, List.setIfInBounds_toArray, List.set_cons_zero, List.set_cons_succ, i64_w, i32_w]
                             rfl
                            refine pure_ (i := 22) (N := some 187) (v := ?_) (a' := ?_) #[true, true, true, true, true, true, true, true, true, true, true, true, true, true, true, true, true, true, true, true, true, true, true, false, false, false] rfl rfl (any_of HT_.out (by kernel_rfl)) (fun _ _ _ h => h) (Or.inl ⟨by rfl, ?_⟩) ?_ ?_
                            rotate_left
                            ·intro w'
                             go_simp
                             with_reducible rfl
                            rotate_left
                            ·simp only [Act.put, List.setIfInBounds_toArray, List.set_cons_zero, List.set_cons_succ, i64_w, i32_w]
                             rfl
                            refine one_ (i := 23) (N := some 188) #[true, true, true, true, true, true, true, true, true, true, true, true, true, true, true, true, true, true, true, true, true, true, true, true, false, false] rfl rfl (one_of HT_.out (by kernel_rfl)) (by decide) (fun K hK => ?_)
                            refine goes_ Try.func20 (by kernel_rfl) rfl #[] (by rfl) rfl rfl (by (try simp only [List.map_toArray, List.map_cons, List.map_nil]); first | done | rfl | (simp only [List.length_drop, List.length_take]; rfl)) ?_
                            with_reducible refine (boomeranglaw3_awake.calls k4  t327 _ A98.out).mono ?_
                            rintro e w105 ⟨rfl, hb⟩
                            refine ⟨_, rfl, ?_⟩
                            have n0_ := Aside0.mk (Kd.R_below (by (with_reducible repeat (first | apply Kd.R_alloc | apply Kd.R_drewN | apply Kd.R_drew)); exact HO_10.out) hb)
                            have n1_ := Aside0.mk (Kd.B_below (by (with_reducible repeat (first | apply Kd.B_alloc | apply Kd.B_drewN | apply Kd.B_drew)); exact HO_21.out) hb)
                            have n2_ := Aside0.mk (Kd.R_below (by (with_reducible repeat (first | apply Kd.R_alloc | apply Kd.R_drewN | apply Kd.R_drew)); exact HO318.out) hb)
                            have n3_ := Aside0.mk (Kd.C_below (by repeat (first | (with_reducible exact HR322.out) | (with_reducible refine Kd.C_alloc ?_ _) | (with_reducible refine Kd.C_drewN ?_ _) | (with_reducible refine Kd.C_drew ?_) | exact HR322.out)) hb)
                            have n4_ := Aside0.mk (below_step (by repeat (first | (with_reducible first | exact HB.out | apply below_alloc | apply pw_below_drewN | apply below_drew1) | exact HB.out)) hb)
                            clear HO_10
                            clear HO_21
                            clear HO318
                            clear HR322
                            clear HB
                            have HO_10 := n0_
                            have HO_21 := n1_
                            have HO318 := n2_
                            have HR322 := n3_
                            have HB := n4_
                            clear n0_ n1_ n2_ n3_ n4_
                            (try clear hb)
                            (try clear hb2)
                            (try clear hk)
                            (try clear hi)
                            refine hK.out _ _ trivial (fun hHeld => ?_)
                            clear hK K
                            refine norm_ (a' := ?_) ?_ ?_
                            rotate_left
                            ·show Act.put _ (some 188) _ = _
                             simp only [Act.put, List.setIfInBounds_toArray, List.set_cons_zero, List.set_cons_succ, i64_w, i32_w]
                             rfl
                            refine pure_ (i := 24) (N := some 189) (v := ?_) (a' := ?_) #[true, true, true, true, true, true, true, true, true, true, true, true, true, true, true, true, true, true, true, true, true, true, true, true, true, false] rfl rfl (any_of HT_.out (by kernel_rfl)) (fun _ _ _ h => h) (Or.inl ⟨by rfl, ?_⟩) ?_ ?_
                            rotate_left
                            ·intro w'
                             go_simp
                             with_reducible rfl
                            rotate_left
                            ·simp only [Act.put, List.setIfInBounds_toArray, List.set_cons_zero, List.set_cons_succ, i64_w, i32_w]
                             rfl
                            refine pure_ (i := 25) (N := some 8) (v := ?_) (a' := ?_) #[true, true, true, true, true, true, true, true, true, true, true, true, true, true, true, true, true, true, true, true, true, true, true, true, true, true] rfl rfl (any_of HT_.out (by kernel_rfl)) (fun _ _ _ h => h) (Or.inl ⟨by rfl, ?_⟩) ?_ ?_
                            rotate_left
                            ·intro w'
                             go_simp
                             with_reducible rfl
                            rotate_left
                            ·simp only [Act.put, List.setIfInBounds_toArray, List.set_cons_zero, List.set_cons_succ, i64_w, i32_w]
                             rfl
                            refine done_ (done_of HT_.out (by kernel_rfl)) ?_
                            try go_wp2
                            go_ret
                            exact ⟨by first | rfl | (simp [errW_none, errW_some] <;> rfl) | (simp only [← hji27, ← hji61]; first | rfl | (simp [errW_none, errW_some] <;> rfl)) | (simp [*, errW_none, errW_some] <;> rfl), by repeat (first | (with_reducible first | exact HB.out | apply below_alloc | apply pw_below_drewN | apply below_drew1) | exact HB.out)⟩
                          ·replace c80 := Bool.eq_false_iff.mpr c80
                           subst c80
                           have H1 : (some false) = some r := by rw [if_neg (show ¬ (false = true) by decide)] at H; exact H
                           clear H
                           have H := H1
                           clear H1
                           obtain rfl := Option.some.inj H
                           have hcv106 := Kd.B_string (P := Try.prog) Try.underlying22 Try.underlying5 Try.underlying9 HO_21.out
                           try go_wp2_with (first | ((with_reducible refine gate_callee (f := 23) rfl ?_); refine goesL_ (some 161) rfl rfl Try.func23 (by kernel_rfl) rfl #[.string (strOfNums y312)] rfl (by (try simp only [List.map_toArray, List.map_cons, List.map_nil]); first | done | rfl | (simp only [List.length_drop, List.length_take]; rfl)) ?_; (with_reducible refine (frame_All.calls k4 (strOfNums y312) t314 t315 t316 _ A73.out).mono ?_); rintro e w107 ⟨v317, rfl, ho0, hb⟩; refine ⟨_, rfl, ?_⟩; have n0_ := Aside0.mk (Kd.R_below (by (with_reducible repeat (first | apply Kd.R_alloc | apply Kd.R_drewN | apply Kd.R_drew)); exact HO_10.out) hb); have n1_ := Aside0.mk (Kd.B_below (by (with_reducible repeat (first | apply Kd.B_alloc | apply Kd.B_drewN | apply Kd.B_drew)); exact HO_21.out) hb); have n2_ := Aside0.mk (Kd.R_lower ho0 (below_size (by repeat (first | (with_reducible first | exact HB.out | apply below_alloc | apply pw_below_drewN | apply below_drew1) | exact HB.out)))); have n3_ := Aside0.mk (below_step (by repeat (first | (with_reducible first | exact HB.out | apply below_alloc | apply pw_below_drewN | apply below_drew1) | exact HB.out)) hb); clear HO_10; clear HO_21; clear HB; have HO_10 := n0_; have HO_21 := n1_; have HO318 := n2_; have HB := n3_; clear n0_ n1_ n2_ n3_; (try clear hb); (try clear hb2); (try clear hk); (try clear hi); (try clear ho0)))
                           have n0_ := Aside0.mk (Kd.R_drew HO_10.out)
                           have n1_ := Aside0.mk (Kd.B_drew HO_21.out)
                           have n2_ := Aside0.mk (Kd.R_drew HO318.out)
                           have n3_ := Aside0.mk (below_drew1 HB.out)
                           clear HO_10
                           clear HO_21
                           clear HO318
                           clear HB
                           have HO_10 := n0_
                           have HO_21 := n1_
                           have HO318 := n2_
                           have HB := n3_
                           clear n0_ n1_ n2_ n3_
                           obtain ⟨Ao109, co109, eo109⟩ := Kd.R_slice HO318.out
                           (first | subst eo109 | (injection eo109 with f1_ f2_ f3_; have f4_ := f1_.symm; have f5_ := f3_.symm; clear f1_ f2_ f3_; subst f4_; subst f5_))
                           have q110 : (x23_4 : Int) ≤ ((t314.length : Int) : Int) := of_decide_eq_true (by first | (with_reducible assumption) | assumption)
                           obtain ⟨i0110, hi0110, _, hsz110, _⟩ := info_parts info9
                           have hroom110 : t314.length ≤ co109 := (Kd.R_reads' HO318.out).2.1
                           have hC110 : Kd.C Kd.string _ Ao109 t314.length t314 := (Kd.R_reads' HO318.out).2.2
                           have hcut110 := cut_to (P := Try.prog) 39 9 .i64 Try.underlying39 hi0110 Ao109 t314.length co109 x23_4 (of_decide_eq_true (by first | (with_reducible assumption) | assumption)) q110 hroom110
                           have hr110 := Kd.C_take (m := (x23_4 : Int).toNat) hC110 (by omega)
                           have hy110 : y319.length = (x23_4 : Int).toNat := (by rw [Ny319.out, List.length_take]; omega)
                           rw [← Ny319.out] at hr110
                           rw [← hy110] at hcut110
                           have HR322 := Aside0.mk hr110
                           have HC322 := Aside0.mk (show y319.length ≤ co109 from by omega)
                           clear hr110 hC110 hroom110 hi0110 hsz110
                           have KY110 := Aside0.mk hy110
                           clear hy110
                           have KL110 := Aside0.mk (show (x23_4 : Int).toNat ≤ t314.length from by omega)
                           replace q110 := eq_true q110
                           obtain ⟨i0111, hi0111, _, hsz111, _⟩ := info_parts info9
                           obtain ⟨hcut111, hA111, hC111⟩ := print_take_of (P := Try.prog) Value.string (⟨#[]⟩ : ByteArray) 39 9 .i64 Try.underlying39 hi0111 hsz111 A0 c0 l0 x23_4 (of_decide_eq_true (by first | (with_reducible assumption) | assumption)) (of_decide_eq_true (by first | (with_reducible assumption) | assumption)) HC0.out
                           have HR323 := Aside0.mk (Kd.C_of_reads (h1 := fun _ => rfl) (hA111 _ (Kd.reads_of_C HR0.out)))
                           have HC323 := Aside0.mk hC111
                           clear hA111 hC111 hi0111 hsz111
                           refine start_ (n := 26) (S := fun w' => True) (ds := []) #[false, false, false, false, false, false, false, false, false, false, false, false, false, false, false, false, false, false, false, false, false, false, false, false, false, false] (by kernel_rfl) rfl rfl trivial (fun hHeld => ?_); refine with_tabW boomeranglaw3_FrameCut.tab38 boomeranglaw3_FrameCut.bits38 (fun HT_ HW_ => ?_)
                           generalize w107.drew = w108 at HO_10 HO_21 HO318 HB HR322 HR323 hHeld ⊢
                           refine pure_ (i := 0) (N := some 165) (v := ?_) (a' := ?_) #[true, false, false, false, false, false, false, false, false, false, false, false, false, false, false, false, false, false, false, false, false, false, false, false, false, false] rfl rfl (any_of HT_.out (by kernel_rfl)) (fun _ _ _ h => h) (Or.inl ⟨by rfl, ?_⟩) ?_ ?_
                           rotate_left
                           ·intro w'
                            go_simp
                            with_reducible rfl
                           rotate_left
                           ·simp only [Act.put, List.setIfInBounds_toArray, List.set_cons_zero, List.set_cons_succ, i64_w, i32_w]
                            rfl
                           refine pure_ (i := 1) (N := some 166) (v := ?_) (a' := ?_) #[true, true, false, false, false, false, false, false, false, false, false, false, false, false, false, false, false, false, false, false, false, false, false, false, false, false] rfl rfl (any_of HT_.out (by kernel_rfl)) (fun _ _ _ h => h) (Or.inl ⟨by rfl, ?_⟩) ?_ ?_
                           rotate_left
                           ·intro w'
                            go_simp
                            with_reducible rfl
                           rotate_left
                           ·simp only [Act.put, List.setIfInBounds_toArray, List.set_cons_zero, List.set_cons_succ, i64_w, i32_w]
                            rfl
                           refine pure_ (i := 2) (N := some 167) (v := ?_) (a' := ?_) #[true, true, true, false, false, false, false, false, false, false, false, false, false, false, false, false, false, false, false, false, false, false, false, false, false, false] rfl rfl (any_of HT_.out (by kernel_rfl)) (fun _ _ _ h => h) (Or.inl ⟨by rfl, ?_⟩) ?_ ?_
                           rotate_left
                           ·intro w'
                            go_simp
                            with_reducible rfl
                           rotate_left
                           ·simp only [Act.put, List.setIfInBounds_toArray, List.set_cons_zero, List.set_cons_succ, i64_w, i32_w]
                            rfl
                           refine pure_ (i := 3) (N := some 168) (v := ?_) (a' := ?_) #[true, true, true, true, false, false, false, false, false, false, false, false, false, false, false, false, false, false, false, false, false, false, false, false, false, false] rfl rfl (any_of HT_.out (by kernel_rfl)) (fun _ _ _ h => h) (Or.inl ⟨by rfl, ?_⟩) ?_ ?_
                           rotate_left
                           ·intro w'
                            go_simp
                            with_reducible rfl
                           rotate_left
                           ·simp only [Act.put, List.setIfInBounds_toArray, List.set_cons_zero, List.set_cons_succ, i64_w, i32_w]
                            rfl
                           refine pure_ (i := 4) (N := some 169) (v := ?_) (a' := ?_) #[true, true, true, true, true, false, false, false, false, false, false, false, false, false, false, false, false, false, false, false, false, false, false, false, false, false] rfl rfl (any_of HT_.out (by kernel_rfl)) (fun _ _ _ h => h) (Or.inl ⟨by rfl, ?_⟩) ?_ ?_
                           rotate_left
                           ·intro w'
                            go_simp
                            with_reducible rfl
                           rotate_left
                           ·simp only [Act.put, List.setIfInBounds_toArray, List.set_cons_zero, List.set_cons_succ, i64_w, i32_w]
                            rfl
                           refine pure_ (i := 5) (N := some 170) (v := ?_) (a' := ?_) #[true, true, true, true, true, true, false, false, false, false, false, false, false, false, false, false, false, false, false, false, false, false, false, false, false, false] rfl rfl (any_of HT_.out (by kernel_rfl)) (fun _ _ _ h => h) (Or.inl ⟨by rfl, ?_⟩) ?_ ?_
                           rotate_left
                           ·intro w'
                            go_simp
                            with_reducible rfl
                           rotate_left
                           ·simp only [Act.put, List.setIfInBounds_toArray, List.set_cons_zero, List.set_cons_succ, i64_w, i32_w]
                            rfl
                           refine pure_ (i := 6) (N := some 171) (v := ?_) (a' := ?_) #[true, true, true, true, true, true, true, false, false, false, false, false, false, false, false, false, false, false, false, false, false, false, false, false, false, false] rfl rfl (any_of HT_.out (by kernel_rfl)) (fun _ _ _ h => h) (Or.inl ⟨by rfl, ?_⟩) ?_ ?_
                           rotate_left
                           ·intro w'
                            go_simp
                            with_reducible rfl
                           rotate_left
                           ·simp only [Act.put, List.setIfInBounds_toArray, List.set_cons_zero, List.set_cons_succ, i64_w, i32_w]
                            rfl
                           refine pure_ (i := 7) (N := some 172) (v := ?_) (a' := ?_) #[true, true, true, true, true, true, true, true, false, false, false, false, false, false, false, false, false, false, false, false, false, false, false, false, false, false] rfl rfl (any_of HT_.out (by kernel_rfl)) (fun _ _ _ h => h) (Or.inl ⟨by rfl, ?_⟩) ?_ ?_
                           rotate_left
                           ·intro w'
                            go_simp
                            with_reducible rfl
                           rotate_left
                           ·simp only [Act.put, List.setIfInBounds_toArray, List.set_cons_zero, List.set_cons_succ, i64_w, i32_w]
                            rfl
                           refine pure_ (i := 8) (N := some 173) (v := ?_) (a' := ?_) #[true, true, true, true, true, true, true, true, true, false, false, false, false, false, false, false, false, false, false, false, false, false, false, false, false, false] rfl rfl (any_of HT_.out (by kernel_rfl)) (fun _ _ _ h => h) (Or.inl ⟨by rfl, ?_⟩) ?_ ?_
                           rotate_left
                           ·intro w'
                            go_simp
                            with_reducible rfl
                           rotate_left
                           ·simp only [Act.put, List.setIfInBounds_toArray, List.set_cons_zero, List.set_cons_succ, i64_w, i32_w]
                            rfl
                           refine pure_ (i := 9) (N := some 174) (v := ?_) (a' := ?_) #[true, true, true, true, true, true, true, true, true, true, false, false, false, false, false, false, false, false, false, false, false, false, false, false, false, false] rfl rfl (any_of HT_.out (by kernel_rfl)) (fun _ _ _ h => h) (Or.inl ⟨by rfl, ?_⟩) ?_ ?_
                           rotate_left
                           ·intro w'
                            go_simp
                            with_reducible rfl
                           rotate_left
                           ·simp only [Act.put, List.setIfInBounds_toArray, List.set_cons_zero, List.set_cons_succ, i64_w, i32_w]
                            rfl
                           refine pure_ (i := 10) (N := some 175) (v := ?_) (a' := ?_) #[true, true, true, true, true, true, true, true, true, true, true, false, false, false, false, false, false, false, false, false, false, false, false, false, false, false] rfl rfl (any_of HT_.out (by kernel_rfl)) (fun _ _ _ h => h) (Or.inl ⟨by rfl, ?_⟩) ?_ ?_
                           rotate_left
                           ·intro w'
                            go_simp
                            with_reducible rfl
                           rotate_left
                           ·simp only [Act.put, List.setIfInBounds_toArray, List.set_cons_zero, List.set_cons_succ, i64_w, i32_w]
                            rfl
                           refine one_ (i := 11) (N := some 176) #[true, true, true, true, true, true, true, true, true, true, true, true, false, false, false, false, false, false, false, false, false, false, false, false, false, false] rfl rfl (one_of HT_.out (by kernel_rfl)) (by decide) (fun K hK => ?_)
                           refine goes_ Try.func25 (by kernel_rfl) rfl #[.slice Ao109 y319.length co109, .slice A0 (l0.take (x23_4 : Int).toNat).length c0] (by rfl) rfl rfl (by (try simp only [List.map_toArray, List.map_cons, List.map_nil]); first | done | (rw [show (l0.take (x23_4 : Int).toNat).length = x23_4.toNat from (by rw [List.length_take]; have h_ : (x23_4 : Int) ≤ (l0.length : Int) := of_decide_eq_true (by first | (with_reducible assumption) | assumption); omega)] <;> rfl) | rfl | (simp only [List.length_drop, List.length_take]; rfl)) ?_
                           with_reducible refine (boomerangref1_SameTexts.calls k4 _ _ y319 _ _ (l0.take (x23_4 : Int).toNat) false _ ?side1 ?side2 ?side3 ?side4 A79.out).mono ?_
                           (case side1 => repeat (first | exact (by repeat (first | (with_reducible exact HR322.out) | (with_reducible refine Kd.C_alloc ?_ _) | (with_reducible refine Kd.C_drewN ?_ _) | (with_reducible refine Kd.C_drew ?_) | exact HR322.out)) | (with_reducible refine Kd.C_alloc ?_ _) | (with_reducible refine Kd.C_drewN ?_ _) | (with_reducible refine Kd.C_drew ?_)))
                           (case side2 => exact HC322.out)
                           (case side3 => repeat (first | exact (Kd.C_below HR323.out HB.out) | (with_reducible refine Kd.C_alloc ?_ _) | (with_reducible refine Kd.C_drewN ?_ _) | (with_reducible refine Kd.C_drew ?_)))
                           (case side4 => exact HC323.out)
                           rintro e w' ⟨rfl, ⟨nd, rfl⟩⟩
                           refine ⟨_, rfl, ?_⟩
                           refine hK.out _ _ trivial (fun hHeld => ?_)
                           clear hK K
                           refine norm_ (a' := ?_) ?_ ?_
                           rotate_left
                           ·show Act.put _ (some 176) _ = _
                            simp only [Act.put, List.setIfInBounds_toArray, List.set_cons_zero, List.set_cons_succ, i64_w, i32_w]
                            rfl
                           refine pure_ (i := 12) (N := some 177) (v := ?_) (a' := ?_) #[true, true, true, true, true, true, true, true, true, true, true, true, true, false, false, false, false, false, false, false, false, false, false, false, false, false] rfl rfl (any_of HT_.out (by kernel_rfl)) (fun _ _ _ h => h) (Or.inl ⟨by rfl, ?_⟩) ?_ ?_
                           rotate_left
                           ·intro w'
                            go_simp
                            with_reducible rfl
                           rotate_left
                           ·simp only [Act.put, List.setIfInBounds_toArray, List.set_cons_zero, List.set_cons_succ, i64_w, i32_w]
                            rfl
                           refine pure_ (i := 13) (N := some 178) (v := ?_) (a' := ?_) #[true, true, true, true, true, true, true, true, true, true, true, true, true, true, false, false, false, false, false, false, false, false, false, false, false, false] rfl rfl (any_of HT_.out (by kernel_rfl)) (fun _ _ _ h => h) (Or.inl ⟨by rfl, ?_⟩) ?_ ?_
                           rotate_left
                           ·intro w'
                            go_simp
                            with_reducible rfl
                           rotate_left
                           ·simp only [Act.put, List.setIfInBounds_toArray, List.set_cons_zero, List.set_cons_succ, i64_w, i32_w]
                            rfl
                           refine pure_ (i := 14) (N := some 179) (v := undef) (a' := ?_) #[true, true, true, true, true, true, true, true, true, true, true, true, true, true, true, false, false, false, false, false, false, false, false, false, false, false] rfl rfl (any_of HT_.out (by kernel_rfl)) (fun _ _ _ h => h) (Or.inr ⟨by rfl, rfl⟩) ?_ ?_
                           rotate_left
                           ·simp only [Act.put, List.setIfInBounds_toArray, List.set_cons_zero, List.set_cons_succ, i64_w, i32_w]
                            rfl
                           refine pure_ (i := 15) (N := some 180) (v := undef) (a' := ?_) #[true, true, true, true, true, true, true, true, true, true, true, true, true, true, true, true, false, false, false, false, false, false, false, false, false, false] rfl rfl (any_of HT_.out (by kernel_rfl)) (fun _ _ _ h => h) (Or.inr ⟨by rfl, rfl⟩) ?_ ?_
                           rotate_left
                           ·simp only [Act.put, List.setIfInBounds_toArray, List.set_cons_zero, List.set_cons_succ, i64_w, i32_w]
                            rfl
                           refine pure_ (i := 16) (N := some 181) (v := undef) (a' := ?_) #[true, true, true, true, true, true, true, true, true, true, true, true, true, true, true, true, true, false, false, false, false, false, false, false, false, false] rfl rfl (any_of HT_.out (by kernel_rfl)) (fun _ _ _ h => h) (Or.inr ⟨by rfl, rfl⟩) ?_ ?_
                           rotate_left
                           ·simp only [Act.put, List.setIfInBounds_toArray, List.set_cons_zero, List.set_cons_succ, i64_w, i32_w]
                            rfl
                           refine pure_ (i := 17) (N := some 182) (v := undef) (a' := ?_) #[true, true, true, true, true, true, true, true, true, true, true, true, true, true, true, true, true, true, false, false, false, false, false, false, false, false] rfl rfl (any_of HT_.out (by kernel_rfl)) (fun _ _ _ h => h) (Or.inr ⟨by rfl, rfl⟩) ?_ ?_
                           rotate_left
                           ·simp only [Act.put, List.setIfInBounds_toArray, List.set_cons_zero, List.set_cons_succ, i64_w, i32_w]
                            rfl
                           refine pure_ (i := 18) (N := some 183) (v := undef) (a' := ?_) #[true, true, true, true, true, true, true, true, true, true, true, true, true, true, true, true, true, true, true, false, false, false, false, false, false, false] rfl rfl (any_of HT_.out (by kernel_rfl)) (fun _ _ _ h => h) (Or.inr ⟨by rfl, rfl⟩) ?_ ?_
                           rotate_left
                           ·simp only [Act.put, List.setIfInBounds_toArray, List.set_cons_zero, List.set_cons_succ, i64_w, i32_w]
                            rfl
                           refine pure_ (i := 19) (N := some 184) (v := undef) (a' := ?_) #[true, true, true, true, true, true, true, true, true, true, true, true, true, true, true, true, true, true, true, true, false, false, false, false, false, false] rfl rfl (any_of HT_.out (by kernel_rfl)) (fun _ _ _ h => h) (Or.inr ⟨by rfl, rfl⟩) ?_ ?_
                           rotate_left
                           ·simp only [Act.put, List.setIfInBounds_toArray, List.set_cons_zero, List.set_cons_succ, i64_w, i32_w]
                            rfl
                           refine pure_ (i := 20) (N := some 185) (v := undef) (a' := ?_) #[true, true, true, true, true, true, true, true, true, true, true, true, true, true, true, true, true, true, true, true, true, false, false, false, false, false] rfl rfl (any_of HT_.out (by kernel_rfl)) (fun _ _ _ h => h) (Or.inr ⟨by rfl, rfl⟩) ?_ ?_
                           rotate_left
                           ·simp only [Act.put, List.setIfInBounds_toArray, List.set_cons_zero, List.set_cons_succ, i64_w, i32_w]
                            rfl
                           refine pure_ (i := 21) (N := some 186) (v := ?_) (a' := ?_) #[true, true, true, true, true, true, true, true, true, true, true, true, true, true, true, true, true, true, true, true, true, true, false, false, false, false] rfl rfl (any_of HT_.out (by kernel_rfl)) (fun _ _ _ h => h) (Or.inl ⟨by rfl, ?_⟩) ?_ ?_
                           rotate_left
                           ·intro w'
                            go_simp
                            with_reducible rfl
                           rotate_left
                           ·simp only [Act.put, List.setIfInBounds_toArray, List.set_cons_zero, List.set_cons_succ, i64_w, i32_w]
                            rfl
                           refine pure_ (i := 22) (N := some 187) (v := ?_) (a' := ?_) #[true, true, true, true, true, true, true, true, true, true, true, true, true, true, true, true, true, true, true, true, true, true, true, false, false, false] rfl rfl (any_of HT_.out (by kernel_rfl)) (fun _ _ _ h => h) (Or.inl ⟨by rfl, ?_⟩) ?_ ?_
                           rotate_left
                           ·intro w'
                            go_simp
                            with_reducible rfl
                           rotate_left
                           ·simp only [Act.put, List.setIfInBounds_toArray, List.set_cons_zero, List.set_cons_succ, i64_w, i32_w]
                            rfl
                           refine pure_ (i := 23) (N := some 188) (v := undef) (a' := ?_) #[true, true, true, true, true, true, true, true, true, true, true, true, true, true, true, true, true, true, true, true, true, true, true, true, false, false] rfl rfl (any_of HT_.out (by kernel_rfl)) (fun _ _ _ h => h) (Or.inr ⟨by rfl, rfl⟩) ?_ ?_
                           rotate_left
                           ·simp only [Act.put, List.setIfInBounds_toArray, List.set_cons_zero, List.set_cons_succ, i64_w, i32_w]
                            rfl
                           refine pure_ (i := 24) (N := some 189) (v := ?_) (a' := ?_) #[true, true, true, true, true, true, true, true, true, true, true, true, true, true, true, true, true, true, true, true, true, true, true, true, true, false] rfl rfl (any_of HT_.out (by kernel_rfl)) (fun _ _ _ h => h) (Or.inl ⟨by rfl, ?_⟩) ?_ ?_
                           rotate_left
                           ·intro w'
                            go_simp
                            with_reducible rfl
                           rotate_left
                           ·simp only [Act.put, List.setIfInBounds_toArray, List.set_cons_zero, List.set_cons_succ, i64_w, i32_w]
                            rfl
                           refine pure_ (i := 25) (N := some 8) (v := ?_) (a' := ?_) #[true, true, true, true, true, true, true, true, true, true, true, true, true, true, true, true, true, true, true, true, true, true, true, true, true, true] rfl rfl (any_of HT_.out (by kernel_rfl)) (fun _ _ _ h => h) (Or.inl ⟨by rfl, ?_⟩) ?_ ?_
                           rotate_left
                           ·intro w'
                            go_simp
                            with_reducible rfl
                           rotate_left
                           ·simp only [Act.put, List.setIfInBounds_toArray, List.set_cons_zero, List.set_cons_succ, i64_w, i32_w]
                            rfl
                           refine done_ (done_of HT_.out (by kernel_rfl)) ?_
                           try go_wp2
                           go_ret
                           exact ⟨by first | rfl | (simp [errW_none, errW_some] <;> rfl) | (simp only [← hji27, ← hji61]; first | rfl | (simp [errW_none, errW_some] <;> rfl)) | (simp [*, errW_none, errW_some] <;> rfl), by repeat (first | (with_reducible first | exact HB.out | apply below_alloc | apply pw_below_drewN | apply below_drew1) | exact HB.out)⟩
                         ·rw [if_neg c78] at H
                          exact absurd H (by simp)
                        ·rw [if_neg c76] at H
                         exact absurd H (by simp)
                       ·rw [if_neg c75] at H
                        exact absurd H (by simp)
                      ·rw [if_neg c74] at H
                       have c74b0 : decide (x23_4 ≤ (t314.length : Int)) = false := decide_eq_false c74
                       clear c74
                       obtain rfl := Option.some.inj H
                       have hcv112 := Kd.B_string (P := Try.prog) Try.underlying22 Try.underlying5 Try.underlying9 HO_21.out
                       try go_wp2_with (first | ((with_reducible refine gate_callee (f := 23) rfl ?_); refine goesL_ (some 161) rfl rfl Try.func23 (by kernel_rfl) rfl #[.string (strOfNums y312)] rfl (by (try simp only [List.map_toArray, List.map_cons, List.map_nil]); first | done | rfl | (simp only [List.length_drop, List.length_take]; rfl)) ?_; (with_reducible refine (frame_All.calls k4 (strOfNums y312) t314 t315 t316 _ A73.out).mono ?_); rintro e w113 ⟨v317, rfl, ho0, hb⟩; refine ⟨_, rfl, ?_⟩; have n0_ := Aside0.mk (Kd.R_below (by (with_reducible repeat (first | apply Kd.R_alloc | apply Kd.R_drewN | apply Kd.R_drew)); exact HO_10.out) hb); have n1_ := Aside0.mk (Kd.B_below (by (with_reducible repeat (first | apply Kd.B_alloc | apply Kd.B_drewN | apply Kd.B_drew)); exact HO_21.out) hb); have n2_ := Aside0.mk (Kd.R_lower ho0 (below_size (by repeat (first | (with_reducible first | exact HB.out | apply below_alloc | apply pw_below_drewN | apply below_drew1) | exact HB.out)))); have n3_ := Aside0.mk (below_step (by repeat (first | (with_reducible first | exact HB.out | apply below_alloc | apply pw_below_drewN | apply below_drew1) | exact HB.out)) hb); clear HO_10; clear HO_21; clear HB; have HO_10 := n0_; have HO_21 := n1_; have HO318 := n2_; have HB := n3_; clear n0_ n1_ n2_ n3_; (try clear hb); (try clear hb2); (try clear hk); (try clear hi); (try clear ho0)))
                       have n0_ := Aside0.mk (Kd.R_drew HO_10.out)
                       have n1_ := Aside0.mk (Kd.B_drew HO_21.out)
                       have n2_ := Aside0.mk (Kd.R_drew HO318.out)
                       have n3_ := Aside0.mk (below_drew1 HB.out)
                       clear HO_10
                       clear HO_21
                       clear HO318
                       clear HB
                       have HO_10 := n0_
                       have HO_21 := n1_
                       have HO318 := n2_
                       have HB := n3_
                       clear n0_ n1_ n2_ n3_
                       obtain ⟨Ao115, co115, eo115⟩ := Kd.R_slice HO318.out
                       (first | subst eo115 | (injection eo115 with f1_ f2_ f3_; have f4_ := f1_.symm; have f5_ := f3_.symm; clear f1_ f2_ f3_; subst f4_; subst f5_))
                       refine start_ (n := 26) (S := fun w' => True) (ds := []) #[false, false, false, false, false, false, false, false, false, false, false, false, false, false, false, false, false, false, false, false, false, false, false, false, false, false] (by kernel_rfl) rfl rfl trivial (fun hHeld => ?_); refine with_tabW boomeranglaw3_FrameCut.tab38 boomeranglaw3_FrameCut.bits38 (fun HT_ HW_ => ?_)
                       generalize w113.drew = w114 at HO_10 HO_21 HO318 HB hHeld ⊢
                       refine pure_ (i := 0) (N := some 165) (v := ?_) (a' := ?_) #[true, false, false, false, false, false, false, false, false, false, false, false, false, false, false, false, false, false, false, false, false, false, false, false, false, false] rfl rfl (any_of HT_.out (by kernel_rfl)) (fun _ _ _ h => h) (Or.inl ⟨by rfl, ?_⟩) ?_ ?_
                       rotate_left
                       ·intro w'
                        go_simp
                        with_reducible rfl
                       rotate_left
                       ·simp only [Act.put, List.setIfInBounds_toArray, List.set_cons_zero, List.set_cons_succ, i64_w, i32_w]
                        rfl
                       refine pure_ (i := 1) (N := some 166) (v := ?_) (a' := ?_) #[true, true, false, false, false, false, false, false, false, false, false, false, false, false, false, false, false, false, false, false, false, false, false, false, false, false] rfl rfl (any_of HT_.out (by kernel_rfl)) (fun _ _ _ h => h) (Or.inl ⟨by rfl, ?_⟩) ?_ ?_
                       rotate_left
                       ·intro w'
                        go_simp
                        with_reducible rfl
                       rotate_left
                       ·simp only [Act.put, List.setIfInBounds_toArray, List.set_cons_zero, List.set_cons_succ, i64_w, i32_w]
                        rfl
                       refine pure_ (i := 2) (N := some 167) (v := ?_) (a' := ?_) #[true, true, true, false, false, false, false, false, false, false, false, false, false, false, false, false, false, false, false, false, false, false, false, false, false, false] rfl rfl (any_of HT_.out (by kernel_rfl)) (fun _ _ _ h => h) (Or.inl ⟨by rfl, ?_⟩) ?_ ?_
                       rotate_left
                       ·intro w'
                        go_simp
                        with_reducible rfl
                       rotate_left
                       ·simp only [Act.put, List.setIfInBounds_toArray, List.set_cons_zero, List.set_cons_succ, i64_w, i32_w]
                        rfl
                       refine pure_ (i := 3) (N := some 168) (v := ?_) (a' := ?_) #[true, true, true, true, false, false, false, false, false, false, false, false, false, false, false, false, false, false, false, false, false, false, false, false, false, false] rfl rfl (any_of HT_.out (by kernel_rfl)) (fun _ _ _ h => h) (Or.inl ⟨by rfl, ?_⟩) ?_ ?_
                       rotate_left
                       ·intro w'
                        go_simp
                        with_reducible rfl
                       rotate_left
                       ·simp only [Act.put, List.setIfInBounds_toArray, List.set_cons_zero, List.set_cons_succ, i64_w, i32_w]
                        rfl
                       refine pure_ (i := 4) (N := some 169) (v := ?_) (a' := ?_) #[true, true, true, true, true, false, false, false, false, false, false, false, false, false, false, false, false, false, false, false, false, false, false, false, false, false] rfl rfl (any_of HT_.out (by kernel_rfl)) (fun _ _ _ h => h) (Or.inl ⟨by rfl, ?_⟩) ?_ ?_
                       rotate_left
                       ·intro w'
                        go_simp
                        with_reducible rfl
                       rotate_left
                       ·simp only [Act.put, List.setIfInBounds_toArray, List.set_cons_zero, List.set_cons_succ, i64_w, i32_w]
                        rfl
                       refine pure_ (i := 5) (N := some 170) (v := undef) (a' := ?_) #[true, true, true, true, true, true, false, false, false, false, false, false, false, false, false, false, false, false, false, false, false, false, false, false, false, false] rfl rfl (any_of HT_.out (by kernel_rfl)) (fun _ _ _ h => h) (Or.inr ⟨by rfl, rfl⟩) ?_ ?_
                       rotate_left
                       ·simp only [Act.put, List.setIfInBounds_toArray, List.set_cons_zero, List.set_cons_succ, i64_w, i32_w]
                        rfl
                       refine pure_ (i := 6) (N := some 171) (v := undef) (a' := ?_) #[true, true, true, true, true, true, true, false, false, false, false, false, false, false, false, false, false, false, false, false, false, false, false, false, false, false] rfl rfl (any_of HT_.out (by kernel_rfl)) (fun _ _ _ h => h) (Or.inr ⟨by rfl, rfl⟩) ?_ ?_
                       rotate_left
                       ·simp only [Act.put, List.setIfInBounds_toArray, List.set_cons_zero, List.set_cons_succ, i64_w, i32_w]
                        rfl
                       refine pure_ (i := 7) (N := some 172) (v := undef) (a' := ?_) #[true, true, true, true, true, true, true, true, false, false, false, false, false, false, false, false, false, false, false, false, false, false, false, false, false, false] rfl rfl (any_of HT_.out (by kernel_rfl)) (fun _ _ _ h => h) (Or.inr ⟨by rfl, rfl⟩) ?_ ?_
                       rotate_left
                       ·simp only [Act.put, List.setIfInBounds_toArray, List.set_cons_zero, List.set_cons_succ, i64_w, i32_w]
                        rfl
                       refine pure_ (i := 8) (N := some 173) (v := undef) (a' := ?_) #[true, true, true, true, true, true, true, true, true, false, false, false, false, false, false, false, false, false, false, false, false, false, false, false, false, false] rfl rfl (any_of HT_.out (by kernel_rfl)) (fun _ _ _ h => h) (Or.inr ⟨by rfl, rfl⟩) ?_ ?_
                       rotate_left
                       ·simp only [Act.put, List.setIfInBounds_toArray, List.set_cons_zero, List.set_cons_succ, i64_w, i32_w]
                        rfl
                       refine pure_ (i := 9) (N := some 174) (v := undef) (a' := ?_) #[true, true, true, true, true, true, true, true, true, true, false, false, false, false, false, false, false, false, false, false, false, false, false, false, false, false] rfl rfl (any_of HT_.out (by kernel_rfl)) (fun _ _ _ h => h) (Or.inr ⟨by rfl, rfl⟩) ?_ ?_
                       rotate_left
                       ·simp only [Act.put, List.setIfInBounds_toArray, List.set_cons_zero, List.set_cons_succ, i64_w, i32_w]
                        rfl
                       refine pure_ (i := 10) (N := some 175) (v := undef) (a' := ?_) #[true, true, true, true, true, true, true, true, true, true, true, false, false, false, false, false, false, false, false, false, false, false, false, false, false, false] rfl rfl (any_of HT_.out (by kernel_rfl)) (fun _ _ _ h => h) (Or.inr ⟨by rfl, rfl⟩) ?_ ?_
                       rotate_left
                       ·simp only [Act.put, List.setIfInBounds_toArray, List.set_cons_zero, List.set_cons_succ, i64_w, i32_w]
                        rfl
                       refine pure_ (i := 11) (N := some 176) (v := undef) (a' := ?_) #[true, true, true, true, true, true, true, true, true, true, true, true, false, false, false, false, false, false, false, false, false, false, false, false, false, false] rfl rfl (any_of HT_.out (by kernel_rfl)) (fun _ _ _ h => h) (Or.inr ⟨by rfl, rfl⟩) ?_ ?_
                       rotate_left
                       ·simp only [Act.put, List.setIfInBounds_toArray, List.set_cons_zero, List.set_cons_succ, i64_w, i32_w]
                        rfl
                       refine pure_ (i := 12) (N := some 177) (v := ?_) (a' := ?_) #[true, true, true, true, true, true, true, true, true, true, true, true, true, false, false, false, false, false, false, false, false, false, false, false, false, false] rfl rfl (any_of HT_.out (by kernel_rfl)) (fun _ _ _ h => h) (Or.inl ⟨by rfl, ?_⟩) ?_ ?_
                       rotate_left
                       ·intro w'
                        go_simp
                        with_reducible rfl
                       rotate_left
                       ·simp only [Act.put, List.setIfInBounds_toArray, List.set_cons_zero, List.set_cons_succ, i64_w, i32_w]
                        rfl
                       refine pure_ (i := 13) (N := some 178) (v := ?_) (a' := ?_) #[true, true, true, true, true, true, true, true, true, true, true, true, true, true, false, false, false, false, false, false, false, false, false, false, false, false] rfl rfl (any_of HT_.out (by kernel_rfl)) (fun _ _ _ h => h) (Or.inl ⟨by rfl, ?_⟩) ?_ ?_
                       rotate_left
                       ·intro w'
                        go_simp
                        with_reducible rfl
                       rotate_left
                       ·simp only [Act.put, List.setIfInBounds_toArray, List.set_cons_zero, List.set_cons_succ, i64_w, i32_w]
                        rfl
                       refine pure_ (i := 14) (N := some 179) (v := undef) (a' := ?_) #[true, true, true, true, true, true, true, true, true, true, true, true, true, true, true, false, false, false, false, false, false, false, false, false, false, false] rfl rfl (any_of HT_.out (by kernel_rfl)) (fun _ _ _ h => h) (Or.inr ⟨by rfl, rfl⟩) ?_ ?_
                       rotate_left
                       ·simp only [Act.put, List.setIfInBounds_toArray, List.set_cons_zero, List.set_cons_succ, i64_w, i32_w]
                        rfl
                       refine pure_ (i := 15) (N := some 180) (v := undef) (a' := ?_) #[true, true, true, true, true, true, true, true, true, true, true, true, true, true, true, true, false, false, false, false, false, false, false, false, false, false] rfl rfl (any_of HT_.out (by kernel_rfl)) (fun _ _ _ h => h) (Or.inr ⟨by rfl, rfl⟩) ?_ ?_
                       rotate_left
                       ·simp only [Act.put, List.setIfInBounds_toArray, List.set_cons_zero, List.set_cons_succ, i64_w, i32_w]
                        rfl
                       refine pure_ (i := 16) (N := some 181) (v := undef) (a' := ?_) #[true, true, true, true, true, true, true, true, true, true, true, true, true, true, true, true, true, false, false, false, false, false, false, false, false, false] rfl rfl (any_of HT_.out (by kernel_rfl)) (fun _ _ _ h => h) (Or.inr ⟨by rfl, rfl⟩) ?_ ?_
                       rotate_left
                       ·simp only [Act.put, List.setIfInBounds_toArray, List.set_cons_zero, List.set_cons_succ, i64_w, i32_w]
                        rfl
                       refine pure_ (i := 17) (N := some 182) (v := undef) (a' := ?_) #[true, true, true, true, true, true, true, true, true, true, true, true, true, true, true, true, true, true, false, false, false, false, false, false, false, false] rfl rfl (any_of HT_.out (by kernel_rfl)) (fun _ _ _ h => h) (Or.inr ⟨by rfl, rfl⟩) ?_ ?_
                       rotate_left
                       ·simp only [Act.put, List.setIfInBounds_toArray, List.set_cons_zero, List.set_cons_succ, i64_w, i32_w]
                        rfl
                       refine pure_ (i := 18) (N := some 183) (v := undef) (a' := ?_) #[true, true, true, true, true, true, true, true, true, true, true, true, true, true, true, true, true, true, true, false, false, false, false, false, false, false] rfl rfl (any_of HT_.out (by kernel_rfl)) (fun _ _ _ h => h) (Or.inr ⟨by rfl, rfl⟩) ?_ ?_
                       rotate_left
                       ·simp only [Act.put, List.setIfInBounds_toArray, List.set_cons_zero, List.set_cons_succ, i64_w, i32_w]
                        rfl
                       refine pure_ (i := 19) (N := some 184) (v := undef) (a' := ?_) #[true, true, true, true, true, true, true, true, true, true, true, true, true, true, true, true, true, true, true, true, false, false, false, false, false, false] rfl rfl (any_of HT_.out (by kernel_rfl)) (fun _ _ _ h => h) (Or.inr ⟨by rfl, rfl⟩) ?_ ?_
                       rotate_left
                       ·simp only [Act.put, List.setIfInBounds_toArray, List.set_cons_zero, List.set_cons_succ, i64_w, i32_w]
                        rfl
                       refine pure_ (i := 20) (N := some 185) (v := undef) (a' := ?_) #[true, true, true, true, true, true, true, true, true, true, true, true, true, true, true, true, true, true, true, true, true, false, false, false, false, false] rfl rfl (any_of HT_.out (by kernel_rfl)) (fun _ _ _ h => h) (Or.inr ⟨by rfl, rfl⟩) ?_ ?_
                       rotate_left
                       ·simp only [Act.put, List.setIfInBounds_toArray, List.set_cons_zero, List.set_cons_succ, i64_w, i32_w]
                        rfl
                       refine pure_ (i := 21) (N := some 186) (v := ?_) (a' := ?_) #[true, true, true, true, true, true, true, true, true, true, true, true, true, true, true, true, true, true, true, true, true, true, false, false, false, false] rfl rfl (any_of HT_.out (by kernel_rfl)) (fun _ _ _ h => h) (Or.inl ⟨by rfl, ?_⟩) ?_ ?_
                       rotate_left
                       ·intro w'
                        go_simp
                        with_reducible rfl
                       rotate_left
                       ·simp only [Act.put, List.setIfInBounds_toArray, List.set_cons_zero, List.set_cons_succ, i64_w, i32_w]
                        rfl
                       refine pure_ (i := 22) (N := some 187) (v := ?_) (a' := ?_) #[true, true, true, true, true, true, true, true, true, true, true, true, true, true, true, true, true, true, true, true, true, true, true, false, false, false] rfl rfl (any_of HT_.out (by kernel_rfl)) (fun _ _ _ h => h) (Or.inl ⟨by rfl, ?_⟩) ?_ ?_
                       rotate_left
                       ·intro w'
                        go_simp
                        with_reducible rfl
                       rotate_left
                       ·simp only [Act.put, List.setIfInBounds_toArray, List.set_cons_zero, List.set_cons_succ, i64_w, i32_w]
                        rfl
                       refine pure_ (i := 23) (N := some 188) (v := undef) (a' := ?_) #[true, true, true, true, true, true, true, true, true, true, true, true, true, true, true, true, true, true, true, true, true, true, true, true, false, false] rfl rfl (any_of HT_.out (by kernel_rfl)) (fun _ _ _ h => h) (Or.inr ⟨by rfl, rfl⟩) ?_ ?_
                       rotate_left
                       ·simp only [Act.put, List.setIfInBounds_toArray, List.set_cons_zero, List.set_cons_succ, i64_w, i32_w]
                        rfl
                       refine pure_ (i := 24) (N := some 189) (v := ?_) (a' := ?_) #[true, true, true, true, true, true, true, true, true, true, true, true, true, true, true, true, true, true, true, true, true, true, true, true, true, false] rfl rfl (any_of HT_.out (by kernel_rfl)) (fun _ _ _ h => h) (Or.inl ⟨by rfl, ?_⟩) ?_ ?_
                       rotate_left
                       ·intro w'
                        go_simp
                        with_reducible rfl
                       rotate_left
                       ·simp only [Act.put, List.setIfInBounds_toArray, List.set_cons_zero, List.set_cons_succ, i64_w, i32_w]
                        rfl
                       refine pure_ (i := 25) (N := some 8) (v := ?_) (a' := ?_) #[true, true, true, true, true, true, true, true, true, true, true, true, true, true, true, true, true, true, true, true, true, true, true, true, true, true] rfl rfl (any_of HT_.out (by kernel_rfl)) (fun _ _ _ h => h) (Or.inl ⟨by rfl, ?_⟩) ?_ ?_
                       rotate_left
                       ·intro w'
                        go_simp
                        with_reducible rfl
                       rotate_left
                       ·simp only [Act.put, List.setIfInBounds_toArray, List.set_cons_zero, List.set_cons_succ, i64_w, i32_w]
                        rfl
                       refine done_ (done_of HT_.out (by kernel_rfl)) ?_
                       try go_wp2
                       go_ret
                       exact ⟨by first | rfl | (simp [errW_none, errW_some] <;> rfl) | (simp only [← hji27, ← hji61]; first | rfl | (simp [errW_none, errW_some] <;> rfl)) | (simp [*, errW_none, errW_some] <;> rfl), by repeat (first | (with_reducible first | exact HB.out | apply below_alloc | apply pw_below_drewN | apply below_drew1) | exact HB.out)⟩
                  ·rw [if_neg c63] at H
                   exact absurd H (by simp)
                 ·rw [if_neg c62] at H
                  exact absurd H (by simp)
               ·rw [if_neg c59] at H
                exact absurd H (by simp)
          ·rw [if_neg c29] at H
           exact absurd H (by simp)
         ·rw [if_neg c28] at H
          exact absurd H (by simp)

end Go.Proofs.Ythhigjfkekdmiaa.M
