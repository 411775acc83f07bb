-- Written by a program of this session (wip/tools/mine.sh), out of the translation and hand-given contracts.
import Derived.Test.YthhigjfkekdmiaaM0
import Derived.Test.YthhigjfkekdmiaaM2
namespace Go.Proofs.Ythhigjfkekdmiaa.M
open Go.RowKit Go.Proofs.YthhigjfkekdmiaaW.PrintWords Go.Proofs.YthhigjfkekdmiaaW.PrintLast Go.Proofs.YthhigjfkekdmiaaW.PrintMore
attribute [local go_sem] max2_int min2_int max_two min_two max_three min_three max_four min_four   -- for this text's walks alone
set_option linter.unusedVariables false
set_option linter.unusedSimpArgs false

/-! ### boomeranglaw2_CrcMix: function 3 -/
def boomeranglaw2_CrcMix.l0 : Nat → ByteArray → ByteArray → ByteArray → Int → List Int → Int → Option (Bool)
 | 0, _, _, _, _, _, _ => none
 | k + 1, x0, x1, x2, x7, x8, x9 => if x9 < x7 then (if 0 ≤ x9 then (if x9 < (x0.size : Int) then (if x9 < (x1.size : Int) then (if x9 < (x2.size : Int) then (if x9 < (x8.length : Int) then (boomeranglaw2_CrcMix.l0 k x0 x1 x2 x7 (x8.set (x9 : Int).toNat (Go.bits .xor .u8 (Go.bits .xor .u8 (bt x0 x9) (bt x1 x9)) (bt x2 x9))) (wrap64 (x9 + 1))) else (none)) else (none)) else (none)) else (none)) else (none)) else (if 0 ≤ x7 then (if x7 ≤ (x0.size : Int) then ((crc_Sum.f (x0.extract 0 (x7 : Int).toNat)).bind fun t115 => (if x7 ≤ (x1.size : Int) then ((crc_Sum.f (x1.extract 0 (x7 : Int).toNat)).bind fun t116 => (if x7 ≤ (x2.size : Int) then ((crc_Sum.f (x2.extract 0 (x7 : Int).toNat)).bind fun t117 => ((crc_Sum.f (strOfNums x8)).bind fun t118 => (if (Go.bits .xor .u32 (Go.bits .xor .u32 t115 t116) t117) = t118 then ((boomeranglaw2_awake.f).bind fun t119 => (some t119)) else (some false)))) else (none))) else (none))) else (none)) else (none))
def boomeranglaw2_CrcMix.f (k : Nat) (a0 : ByteArray) (a1 : ByteArray) (a2 : ByteArray) : Option (Bool) := if 0 ≤ (mn (mn (mn (a0.size : Int) (a1.size : Int)) (a2.size : Int)) 300) then (if (mn (mn (mn (a0.size : Int) (a1.size : Int)) (a2.size : Int)) 300 : Int).toNat ≤ 281474976710656 then (boomeranglaw2_CrcMix.l0 k a0 a1 a2 (mn (mn (mn (a0.size : Int) (a1.size : Int)) (a2.size : Int)) 300) (List.replicate (mn (mn (mn (a0.size : Int) (a1.size : Int)) (a2.size : Int)) 300 : Int).toNat 0) 0) else (none)) else (none)
theorem boomeranglaw2_CrcMix.mono_l : ∀ k, (∀ y0 y1 y2 y3 y4 y5, LeO (boomeranglaw2_CrcMix.l0 k y0 y1 y2 y3 y4 y5) (boomeranglaw2_CrcMix.l0 (k + 1) y0 y1 y2 y3 y4 y5))
 | 0 => fun _ _ _ _ _ _ r h => by simp [boomeranglaw2_CrcMix.l0] at h
 | k + 1 => by
  have ih0 := boomeranglaw2_CrcMix.mono_l k
  ·intro y0 y1 y2 y3 y4 y5
   unfold boomeranglaw2_CrcMix.l0
   repeat' first
   | (with_reducible exact ih0 _ _ _ _ _ _)
   | (with_reducible exact LeO.refl _)
   | (with_reducible exact LeO.none _)
   | (with_reducible refine LeO.ite ?_ ?_)
   | (with_reducible refine LeO.bind ?_ (fun _ => ?_))
   | exact ih0 _ _ _ _ _ _
   | exact LeO.none _
   | refine LeO.ite ?_ ?_
   | refine LeO.bind ?_ (fun _ => ?_)
theorem boomeranglaw2_CrcMix.mono : ∀ a0 a1 a2 k, LeO (boomeranglaw2_CrcMix.f k a0 a1 a2) (boomeranglaw2_CrcMix.f (k + 1) a0 a1 a2) := by
 intro a0 a1 a2 k
 have ih0 := boomeranglaw2_CrcMix.mono_l k
 unfold boomeranglaw2_CrcMix.f
 repeat' first
   | (with_reducible exact ih0 _ _ _ _ _ _)
   | (with_reducible exact LeO.refl _)
   | (with_reducible exact LeO.none _)
   | (with_reducible refine LeO.ite ?_ ?_)
   | (with_reducible refine LeO.bind ?_ (fun _ => ?_))
   | exact ih0 _ _ _ _ _ _
   | exact LeO.none _
   | refine LeO.ite ?_ ?_
   | refine LeO.bind ?_ (fun _ => ?_)
def boomeranglaw2_CrcMix.T6 : Bool × List (List Nat × List Nat) := (true, [([], []), ([], []), ([], []), ([], []), ([2, 3], [2, 3]), ([], []), ([], []), ([5, 6], [5, 6]), ([4, 7], [4, 7]), ([], []), ([], []), ([9, 10], [9, 10]), ([8, 11], [8, 11]), ([0, 1, 0, 1, 2, 3, 4, 5, 6, 7, 8, 9, 10, 11, 12], [0, 1]), ([13, 12, 0, 1, 2, 3, 4, 5, 6, 7, 8, 9, 10, 11, 12], [12, 13])])
def boomeranglaw2_CrcMix.B6 : List Nat := [0, 0, 0, 0, 12, 0, 0, 96, 252, 0, 0, 1536, 4092, 8191, 16383]
theorem boomeranglaw2_CrcMix.tab6 : rtab .any (opsOf Try.f3 6) = boomeranglaw2_CrcMix.T6 := by kernel_rfl
theorem boomeranglaw2_CrcMix.bits6 : waitsOk boomeranglaw2_CrcMix.T6.2 boomeranglaw2_CrcMix.B6 = true := by kernel_rfl
def boomeranglaw2_CrcMix.T7 : Bool × List (List Nat × List Nat) := (true, [([], []), ([], []), ([0, 1], [0, 1]), ([2], [2]), ([], []), ([], []), ([4, 5], [4, 5]), ([6, 3], [6]), ([3, 7], [3, 7]), ([], []), ([], []), ([9, 10], [9, 10]), ([11, 7], [11]), ([8, 12], [8, 12]), ([], []), ([14], [14]), ([15, 12], [15]), ([13, 16], [13, 16]), ([17, 16], [17]), ([18, 18], [18]), ([18, 19], [18, 19]), ([20, 19, 0, 1, 2, 3, 4, 5, 6, 7, 8, 9, 10, 11, 12, 13, 14, 15, 16, 17, 18, 19, 20], [20])])
def boomeranglaw2_CrcMix.B7 : List Nat := [0, 0, 3, 7, 0, 0, 48, 127, 255, 0, 0, 1536, 3839, 8191, 0, 16384, 57087, 131071, 262143, 524287, 1048575, 2097151]
theorem boomeranglaw2_CrcMix.tab7 : rtab .any (opsOf Try.f3 7) = boomeranglaw2_CrcMix.T7 := by kernel_rfl
theorem boomeranglaw2_CrcMix.bits7 : waitsOk boomeranglaw2_CrcMix.T7.2 boomeranglaw2_CrcMix.B7 = true := by kernel_rfl
set_option maxHeartbeats 8000000 in
set_option maxRecDepth 100000 in
theorem boomeranglaw2_CrcMix.calls (k : Nat) (a0 : ByteArray) (a1 : ByteArray) (a2 : ByteArray) (r : Bool) (w : World) (h : boomeranglaw2_CrcMix.f k a0 a1 a2 = some r) (hrt : r = true) :
  Calls Try.prog 3 #[.string a0, .string a1, .string a2] w fun e w' => e = .returned (.bool r) ∧ Below w.heap.size w w' := by
 have HRT := Aside0.mk hrt
 clear hrt
 have HB := Aside0.mk (Below.refl w.heap.size w)
 have H : (if 0 ≤ (mn (mn (mn (a0.size : Int) (a1.size : Int)) (a2.size : Int)) 300) then (if (mn (mn (mn (a0.size : Int) (a1.size : Int)) (a2.size : Int)) 300 : Int).toNat ≤ 281474976710656 then (boomeranglaw2_CrcMix.l0 k a0 a1 a2 (mn (mn (mn (a0.size : Int) (a1.size : Int)) (a2.size : Int)) 300) (List.replicate (mn (mn (mn (a0.size : Int) (a1.size : Int)) (a2.size : Int)) 300 : Int).toNat 0) 0) else (none)) else (none)) = some r := h
 clear h
 obtain ⟨ji4, hji4⟩ : ∃ j_ : Int, (mn (a0.size : Int) (a1.size : Int)) = j_ := ⟨_, rfl⟩
 replace H : (if 0 ≤ (mn (mn (ji4) (a2.size : Int)) 300) then (if (mn (mn (ji4) (a2.size : Int)) 300 : Int).toNat ≤ 281474976710656 then (boomeranglaw2_CrcMix.l0 k a0 a1 a2 (mn (mn (ji4) (a2.size : Int)) 300) (List.replicate (mn (mn (ji4) (a2.size : Int)) 300 : Int).toNat 0) 0) else (none)) else (none)) = some r := by first | (rw [hji4] at H; exact H) | (simp only [hji4] at H ⊢; exact H)
 (try (have hji4l : 0 ≤ ji4 := by (rw [← hji4]; unfold mn; (repeat' split) <;> omega)))
 (try (have hji4m : 0 ≤ ji4 := by omega))
 have hji4_ : (if (a1.size : Int) < (a0.size : Int) then (a1.size : Int) else (a0.size : Int)) = ji4 := hji4
 have hji4n : (if a1.size < a0.size then (a1.size : Int) else (a0.size : Int)) = ji4 := by rw [← hji4_]; simp only [Int.ofNat_lt]
 obtain ⟨ji5, hji5⟩ : ∃ j_ : Int, (mn (ji4) (a2.size : Int)) = j_ := ⟨_, rfl⟩
 replace H : (if 0 ≤ (mn (ji5) 300) then (if (mn (ji5) 300 : Int).toNat ≤ 281474976710656 then (boomeranglaw2_CrcMix.l0 k a0 a1 a2 (mn (ji5) 300) (List.replicate (mn (ji5) 300 : Int).toNat 0) 0) else (none)) else (none)) = some r := by first | (rw [hji5] at H; exact H) | (simp only [hji5] at H ⊢; exact H)
 have hji5_ : (if (a2.size : Int) < (ji4) then (a2.size : Int) else (ji4)) = ji5 := hji5
 obtain ⟨ji6, hji6⟩ : ∃ j_ : Int, (mn (ji5) 300) = j_ := ⟨_, rfl⟩
 replace H : (if 0 ≤ (ji6) then (if (ji6 : Int).toNat ≤ 281474976710656 then (boomeranglaw2_CrcMix.l0 k a0 a1 a2 ji6 (List.replicate (ji6 : Int).toNat 0) 0) else (none)) else (none)) = some r := by first | (rw [hji6] at H; exact H) | (simp only [hji6] at H ⊢; exact H)
 have hji6_ : (if 300 < (ji5) then 300 else (ji5)) = ji6 := hji6
 by_cases c7 : 0 ≤ (ji6)
 ·rw [if_pos c7] at H
  have c7b0 := eq_true c7
  have c7b1 : decide (0 ≤ (ji6)) = true := decide_eq_true c7
  clear c7
  by_cases c8 : (ji6 : Int).toNat ≤ 281474976710656
  ·rw [if_pos c8] at H
   have c8b0 := eq_true c8
   have c8b1 : decide ((ji6 : Int).toNat ≤ 281474976710656) = true := decide_eq_true c8
   clear c8
   obtain ⟨y111, hy111⟩ : ∃ y_ : List Int, y_ = (List.replicate (ji6 : Int).toNat 0) := ⟨_, rfl⟩
   replace H : (boomeranglaw2_CrcMix.l0 k a0 a1 a2 ji6 y111 0) = some r := by first | (rw [hy111]; with_reducible exact H) | (have H2_ := (Option.bind_some _ _).symm.trans H; rw [hy111]; with_reducible exact H2_) | (have H2_ := (Option.bind_some _ _).symm.trans H; with_reducible exact H2_) | with_reducible exact H | (rw [hy111]; exact H) | exact H
   have Ny111 := Aside0.mk hy111
   clear hy111
   have H' := Aside0.mk H
   clear H
   go_enter Try.func3, Try.ntmps3
   go_wp2_with (first | ((with_reducible refine gate_dst (N := 18) rfl ?_); refine Kd.R_make (Kd.int .u8) _ 5 rfl (N := 18) rfl 22 _ _ rfl ji6 rfl rfl Try.underlying22 (.int .u8 0) 1 info5 rfl (by decide) (by omega) 0 (ok := fun _ => True) (okp := fun _ => True) rfl (fun _ hk => hk) trivial (of_decide_eq_true (by first | (with_reducible assumption) | assumption)) (Nat.le_trans (Nat.mul_le_mul_right _ (of_decide_eq_true (by first | (with_reducible assumption) | assumption) : ji6.toNat ≤ 281474976710656)) (by omega)) (Below.refl _ _) (Nat.le_refl _) ?_; intro v112 w9 ho10 hb hg_ hnew_; clear hg_ hnew_; (first | rw [← Ny111.out] at ho10 | (simp only [Int.reduceToNat] at ho10; rw [← Ny111.out] at ho10)); have n0_ := Aside0.mk (Kd.R_lower ho10 (below_size (by repeat (first | (with_reducible first | exact HB.out | apply below_alloc | apply pw_below_drewN | apply below_drew1) | exact HB.out)))); have n1_ := Aside0.mk (below_step (by repeat (first | (with_reducible first | exact HB.out | apply below_alloc | apply pw_below_drewN | apply below_drew1) | exact HB.out)) hb); clear HB; have HO113 := n0_; have HB := n1_; clear n0_ n1_; clear hb ho10))
   go_loopg [9] k (fun kq v9 w' => ∃ (x8_1 : List Int) (x9_1 : Int), v9 = .int .i64 x9_1 ∧ Aside0 (boomeranglaw2_CrcMix.l0 kq a0 a1 a2 ji6 x8_1 x9_1 = some r) ∧ Aside0 (kq ≤ k) ∧ Aside0 (Kd.R (Kd.int .u8) 5 w' w.heap.size (fun _ => True) v112 x8_1) ∧ Aside0 (Below w.heap.size w w'))
   case atStart => exact ⟨(y111), (0), (by first | rfl | (simp; done) | (simp [*]; done)), H', ⟨Nat.le_refl _⟩, ⟨by (with_reducible repeat (first | apply Kd.R_alloc | apply Kd.R_drewN | apply Kd.R_drew)); exact HO113.out⟩, ⟨by repeat (first | (with_reducible first | exact HB.out | apply below_alloc | apply pw_below_drewN | apply below_drew1) | exact HB.out)⟩⟩
   case round =>
    clear H'
    try clear p2
    try clear c3
    try clear c7
    try clear c7b0
    try clear c7b1
    try clear c8
    try clear c8b0
    try clear c8b1
    obtain ⟨x8_1, x9_1, rfl, HA, HK1, HO_8, HB⟩ := hrel
    cases gk with
    | zero => exact absurd HA.out (by simp [boomeranglaw2_CrcMix.l0])
    | succ k1 =>
     have H := HA.out
     clear HA
     simp only [boomeranglaw2_CrcMix.l0] at H
     by_cases c11 : x9_1 < ji6
     ·rw [if_pos c11] at H
      have c11b0 : decide (x9_1 < ji6) = true := decide_eq_true c11
      clear c11
      by_cases c12 : 0 ≤ x9_1
      ·rw [if_pos c12] at H
       have c12b0 : decide (0 ≤ x9_1) = true := decide_eq_true c12
       clear c12
       by_cases c13 : x9_1 < (a0.size : Int)
       ·rw [if_pos c13] at H
        have c13b0 : decide (x9_1 < (a0.size : Int)) = true := decide_eq_true c13
        clear c13
        by_cases c15 : x9_1 < (a1.size : Int)
        ·rw [if_pos c15] at H
         have c15b0 : decide (x9_1 < (a1.size : Int)) = true := decide_eq_true c15
         clear c15
         by_cases c17 : x9_1 < (a2.size : Int)
         ·rw [if_pos c17] at H
          have c17b0 : decide (x9_1 < (a2.size : Int)) = true := decide_eq_true c17
          clear c17
          by_cases c19 : x9_1 < (x8_1.length : Int)
          ·rw [if_pos c19] at H
           have c19b0 : decide (x9_1 < (x8_1.length : Int)) = true := decide_eq_true c19
           clear c19
           obtain ⟨y114, hy114⟩ : ∃ y_ : List Int, y_ = (x8_1.set (x9_1 : Int).toNat (Go.bits .xor .u8 (Go.bits .xor .u8 (bt a0 x9_1) (bt a1 x9_1)) (bt a2 x9_1))) := ⟨_, rfl⟩
           replace H : (boomeranglaw2_CrcMix.l0 k1 a0 a1 a2 ji6 y114 (wrap64 (x9_1 + 1))) = some r := by first | (rw [hy114]; with_reducible exact H) | (have H2_ := (Option.bind_some _ _).symm.trans H; rw [hy114]; with_reducible exact H2_) | (have H2_ := (Option.bind_some _ _).symm.trans H; with_reducible exact H2_) | with_reducible exact H | (rw [hy114]; exact H) | exact H
           have Ny114 := Aside0.mk hy114
           clear hy114
           have H' := Aside0.mk H
           clear H
           try go_wp2
           have n0_ := Aside0.mk (Kd.R_drew HO_8.out)
           have n1_ := Aside0.mk (below_drew1 HB.out)
           clear HO_8
           clear HB
           have HO_8 := n0_
           have HB := n1_
           clear n0_ n1_
           have p14 : 0 ≤ (x9_1 : Int) := of_decide_eq_true (by first | (with_reducible assumption) | assumption)
           have q14 : x9_1 < (a0.size : Int) := of_decide_eq_true (by first | (with_reducible assumption) | assumption)
           have hx14 := bt_at a0 x9_1
           replace p14 := eq_true p14
           replace q14 := eq_true q14
           have p16 : 0 ≤ (x9_1 : Int) := of_decide_eq_true (by first | (with_reducible assumption) | assumption)
           have q16 : x9_1 < (a1.size : Int) := of_decide_eq_true (by first | (with_reducible assumption) | assumption)
           have hx16 := bt_at a1 x9_1
           replace p16 := eq_true p16
           replace q16 := eq_true q16
           have p18 : 0 ≤ (x9_1 : Int) := of_decide_eq_true (by first | (with_reducible assumption) | assumption)
           have q18 : x9_1 < (a2.size : Int) := of_decide_eq_true (by first | (with_reducible assumption) | assumption)
           have hx18 := bt_at a2 x9_1
           replace p18 := eq_true p18
           replace q18 := eq_true q18
           have p20 : 0 ≤ (x9_1 : Int) := of_decide_eq_true (by first | (with_reducible assumption) | assumption)
           have q20 : (x9_1 : Int) < ((x8_1.length : Int) : Int) := of_decide_eq_true (by first | (with_reducible assumption) | assumption)
           obtain ⟨go20, co20, eo20, gb20, gl20, cl20, HG20⟩ := Kd.R_form HO_8.out (by omega)
           (first | cases eo20 | (injection eo20 with ea_ en_ ec_; (first | subst ea_ | (injection ea_ with ea_; subst ea_)); subst ec_; clear en_))
           have GB20 := Aside0.mk gb20
           have GG20 := Aside0.mk HG20
           clear gb20 gl20 HG20
           obtain ⟨hx20_0, hf20_0⟩ := Kd.R_celln 0 HO_8.out (x9_1 : Int) p20 q20
           replace p20 := eq_true p20
           replace q20 := eq_true q20
           have HP22 := Kd.R_putn HO_8.out (x9_1 : Int) (Go.bits .xor .u8 (Go.bits .xor .u8 (bt a0 x9_1) (bt a1 x9_1)) (bt a2 x9_1))
           rw [← Ny114.out] at HP22
           have HQ22 := Aside0.mk HP22
           clear HP22
           refine start_ (n := 15) (S := fun w' => True) (ds := [14]) #[false, false, false, false, false, false, false, false, false, false, false, false, false, false, false] (by kernel_rfl) rfl rfl trivial (fun hHeld => ?_); refine with_tabW boomeranglaw2_CrcMix.tab6 boomeranglaw2_CrcMix.bits6 (fun HT_ HW_ => ?_)
           generalize wr.drew = w21 at HO_8 HB GG20 HQ22 hf20_0 hx20_0 hHeld ⊢
           refine pure_ (i := 0) (N := some 24) (v := ?_) (a' := ?_) #[true, false, false, false, false, false, false, false, false, false, false, false, false, false, false] rfl rfl (any_of HT_.out (by kernel_rfl)) (fun _ _ _ h => h) (Or.inl ⟨by rfl, ?_⟩) ?_ ?_
           rotate_left
           ·intro w'
            go_simp
            with_reducible rfl
           rotate_left
           ·simp only [Act.put, List.setIfInBounds_toArray, List.set_cons_zero, List.set_cons_succ, i64_w, i32_w]
            rfl
           refine pure_ (i := 1) (N := some 25) (v := ?_) (a' := ?_) #[true, true, false, false, false, false, false, false, false, false, false, false, false, false, false] rfl rfl (any_of HT_.out (by kernel_rfl)) (fun _ _ _ h => h) (Or.inl ⟨by rfl, ?_⟩) ?_ ?_
           rotate_left
           ·intro w'
            go_simp
            with_reducible rfl
           rotate_left
           ·simp only [Act.put, List.setIfInBounds_toArray, List.set_cons_zero, List.set_cons_succ, i64_w, i32_w]
            rfl
           refine pure_ (i := 2) (N := some 26) (v := ?_) (a' := ?_) #[true, true, true, false, false, false, false, false, false, false, false, false, false, false, false] rfl rfl (any_of HT_.out (by kernel_rfl)) (fun _ _ _ h => h) (Or.inl ⟨by rfl, ?_⟩) ?_ ?_
           rotate_left
           ·intro w'
            go_simp
            with_reducible rfl
           rotate_left
           ·simp only [Act.put, List.setIfInBounds_toArray, List.set_cons_zero, List.set_cons_succ, i64_w, i32_w]
            rfl
           refine pure_ (i := 3) (N := some 27) (v := ?_) (a' := ?_) #[true, true, true, true, false, false, false, false, false, false, false, false, false, false, false] rfl rfl (any_of HT_.out (by kernel_rfl)) (fun _ _ _ h => h) (Or.inl ⟨by rfl, ?_⟩) ?_ ?_
           rotate_left
           ·intro w'
            go_simp
            with_reducible rfl
           rotate_left
           ·simp only [Act.put, List.setIfInBounds_toArray, List.set_cons_zero, List.set_cons_succ, i64_w, i32_w]
            rfl
           refine pure_ (i := 5) (N := some 29) (v := ?_) (a' := ?_) #[true, true, true, true, false, true, false, false, false, false, false, false, false, false, false] rfl rfl (any_of HT_.out (by kernel_rfl)) (fun _ _ _ h => h) (Or.inl ⟨by rfl, ?_⟩) ?_ ?_
           rotate_left
           ·intro w'
            go_simp
            with_reducible rfl
           rotate_left
           ·simp only [Act.put, List.setIfInBounds_toArray, List.set_cons_zero, List.set_cons_succ, i64_w, i32_w]
            rfl
           refine pure_ (i := 6) (N := some 30) (v := ?_) (a' := ?_) #[true, true, true, true, false, true, true, false, false, false, false, false, false, false, false] rfl rfl (any_of HT_.out (by kernel_rfl)) (fun _ _ _ h => h) (Or.inl ⟨by rfl, ?_⟩) ?_ ?_
           rotate_left
           ·intro w'
            go_simp
            with_reducible rfl
           rotate_left
           ·simp only [Act.put, List.setIfInBounds_toArray, List.set_cons_zero, List.set_cons_succ, i64_w, i32_w]
            rfl
           refine pure_ (i := 9) (N := some 33) (v := ?_) (a' := ?_) #[true, true, true, true, false, true, true, false, false, true, false, false, false, false, false] rfl rfl (any_of HT_.out (by kernel_rfl)) (fun _ _ _ h => h) (Or.inl ⟨by rfl, ?_⟩) ?_ ?_
           rotate_left
           ·intro w'
            go_simp
            with_reducible rfl
           rotate_left
           ·simp only [Act.put, List.setIfInBounds_toArray, List.set_cons_zero, List.set_cons_succ, i64_w, i32_w]
            rfl
           refine pure_ (i := 10) (N := some 34) (v := ?_) (a' := ?_) #[true, true, true, true, false, true, true, false, false, true, true, false, false, false, false] rfl rfl (any_of HT_.out (by kernel_rfl)) (fun _ _ _ h => h) (Or.inl ⟨by rfl, ?_⟩) ?_ ?_
           rotate_left
           ·intro w'
            go_simp
            with_reducible rfl
           rotate_left
           ·simp only [Act.put, List.setIfInBounds_toArray, List.set_cons_zero, List.set_cons_succ, i64_w, i32_w]
            rfl
           refine take_ (i := 4) (N := some 28) (v := ?_) (a' := ?_) #[true, true, true, true, true, true, true, false, false, true, true, false, false, false, false] rfl rfl (take_ofW HT_.out HW_.out (by kernel_rfl)) (fun _ _ _ h => h) (Or.inl ⟨by rfl, ?_⟩) hHeld ?_ ?_
           rotate_left
           ·intro w' _
            go_simp
            with_reducible rfl
           rotate_left
           ·simp only [Act.put, List.setIfInBounds_toArray, List.set_cons_zero, List.set_cons_succ, i64_w, i32_w]
            rfl
           refine take_ (i := 7) (N := some 31) (v := ?_) (a' := ?_) #[true, true, true, true, true, true, true, true, false, true, true, false, false, false, false] rfl rfl (take_ofW HT_.out HW_.out (by kernel_rfl)) (fun _ _ _ h => h) (Or.inl ⟨by rfl, ?_⟩) hHeld ?_ ?_
           rotate_left
           ·intro w' _
            go_simp
            with_reducible rfl
           rotate_left
           ·simp only [Act.put, List.setIfInBounds_toArray, List.set_cons_zero, List.set_cons_succ, i64_w, i32_w]
            rfl
           refine pure_ (i := 8) (N := some 32) (v := ?_) (a' := ?_) #[true, true, true, true, true, true, true, true, true, true, true, false, false, false, false] rfl rfl (any_of HT_.out (by kernel_rfl)) (fun _ _ _ h => h) (Or.inl ⟨by rfl, ?_⟩) ?_ ?_
           rotate_left
           ·intro w'
            go_simp
            with_reducible rfl
           rotate_left
           ·simp only [Act.put, List.setIfInBounds_toArray, List.set_cons_zero, List.set_cons_succ, i64_w, i32_w]
            rfl
           refine take_ (i := 11) (N := some 35) (v := ?_) (a' := ?_) #[true, true, true, true, true, true, true, true, true, true, true, true, false, false, false] rfl rfl (take_ofW HT_.out HW_.out (by kernel_rfl)) (fun _ _ _ h => h) (Or.inl ⟨by rfl, ?_⟩) hHeld ?_ ?_
           rotate_left
           ·intro w' _
            go_simp
            with_reducible rfl
           rotate_left
           ·simp only [Act.put, List.setIfInBounds_toArray, List.set_cons_zero, List.set_cons_succ, i64_w, i32_w]
            rfl
           refine pure_ (i := 12) (N := some 36) (v := ?_) (a' := ?_) #[true, true, true, true, true, true, true, true, true, true, true, true, true, false, false] rfl rfl (any_of HT_.out (by kernel_rfl)) (fun _ _ _ h => h) (Or.inl ⟨by rfl, ?_⟩) ?_ ?_
           rotate_left
           ·intro w'
            go_simp
            with_reducible rfl
           rotate_left
           ·simp only [Act.put, List.setIfInBounds_toArray, List.set_cons_zero, List.set_cons_succ, i64_w, i32_w]
            rfl
           refine pure_ (i := 13) (N := some 37) (v := ?_) (a' := ?_) #[true, true, true, true, true, true, true, true, true, true, true, true, true, true, false] rfl rfl (any_of HT_.out (by kernel_rfl)) (fun _ _ _ h => h) (Or.inl ⟨by rfl, ?_⟩) ?_ ?_
           rotate_left
           ·intro w'
            go_simp
            with_reducible rfl
           rotate_left
           ·simp only [Act.put, List.setIfInBounds_toArray, List.set_cons_zero, List.set_cons_succ, i64_w, i32_w]
            rfl
           refine last_ (i := 14) (N := none) #[true, true, true, true, true, true, true, true, true, true, true, true, true, true, true] rfl rfl (one_of HT_.out (by kernel_rfl)) (by decide) (fun K hK => ?_)
           refine skip_ (w1 := ?_) (by rfl) rfl ?_ ?_
           rotate_left
           ·go_simp
            rfl
           refine hK.out _ _ ?_
           clear hK K
           refine done_ (done_of HT_.out (by kernel_rfl)) ?_
           try go_wp2
           go_roundg k1
           case measure => have := HK1.out; omega
           case rel => exact ⟨(y114), (wrap64 (x9_1 + 1)), (by first | rfl | (simp; done) | (simp [*]; done)), H', ⟨by have := HK1.out; omega⟩, ⟨by (with_reducible repeat (first | apply Kd.R_alloc | apply Kd.R_drewN | apply Kd.R_drew)); first | exact HQ22.out | (simp only [hji4_, hji5_, hji6_]; exact HQ22.out) | (simp only [IntKind.wrap_u8] at hji4_ hji5_ hji6_; simp only [hji4_, hji5_, hji6_]; exact HQ22.out)⟩, ⟨by repeat (first | (with_reducible first | exact HB.out | apply below_alloc | apply pw_below_drewN | apply below_drew1 | refine below_set ?_ GB20.out) | exact HB.out)⟩⟩
          ·rw [if_neg c19] at H
           exact absurd H (by simp)
         ·rw [if_neg c17] at H
          exact absurd H (by simp)
        ·rw [if_neg c15] at H
         exact absurd H (by simp)
       ·rw [if_neg c13] at H
        exact absurd H (by simp)
      ·rw [if_neg c12] at H
       exact absurd H (by simp)
     ·rw [if_neg c11] at H
      have c11b0 : decide (x9_1 < ji6) = false := decide_eq_false c11
      clear c11
      by_cases c23 : 0 ≤ ji6
      ·rw [if_pos c23] at H
       have c23b0 := eq_true c23
       have c23b1 : decide (0 ≤ ji6) = true := decide_eq_true c23
       clear c23
       by_cases c24 : ji6 ≤ (a0.size : Int)
       ·rw [if_pos c24] at H
        have c24b0 := eq_true c24
        have c24b1 : decide (ji6 ≤ (a0.size : Int)) = true := decide_eq_true c24
        clear c24
        replace H := Option.bind_eq_some_iff.mp H
        obtain ⟨t115, A250, H⟩ := H
        replace H : (if ji6 ≤ (a1.size : Int) then ((crc_Sum.f (a1.extract 0 (ji6 : Int).toNat)).bind fun t116 => (if ji6 ≤ (a2.size : Int) then ((crc_Sum.f (a2.extract 0 (ji6 : Int).toNat)).bind fun t117 => ((crc_Sum.f (strOfNums x8_1)).bind fun t118 => (if (Go.bits .xor .u32 (Go.bits .xor .u32 t115 t116) t117) = t118 then ((boomeranglaw2_awake.f).bind fun t119 => (some t119)) else (some false)))) else (none))) else (none)) = some r := H
        have A25 := Aside0.mk A250
        clear A250
        have c26b0 := eq_true (of_decide_eq_true (by first | (with_reducible assumption) | assumption) : 0 ≤ ji6)
        by_cases c27 : ji6 ≤ (a1.size : Int)
        ·rw [if_pos c27] at H
         have c27b0 := eq_true c27
         have c27b1 : decide (ji6 ≤ (a1.size : Int)) = true := decide_eq_true c27
         clear c27
         replace H := Option.bind_eq_some_iff.mp H
         obtain ⟨t116, A280, H⟩ := H
         replace H : (if ji6 ≤ (a2.size : Int) then ((crc_Sum.f (a2.extract 0 (ji6 : Int).toNat)).bind fun t117 => ((crc_Sum.f (strOfNums x8_1)).bind fun t118 => (if (Go.bits .xor .u32 (Go.bits .xor .u32 t115 t116) t117) = t118 then ((boomeranglaw2_awake.f).bind fun t119 => (some t119)) else (some false)))) else (none)) = some r := H
         have A28 := Aside0.mk A280
         clear A280
         have c29b0 := eq_true (of_decide_eq_true (by first | (with_reducible assumption) | assumption) : 0 ≤ ji6)
         by_cases c30 : ji6 ≤ (a2.size : Int)
         ·rw [if_pos c30] at H
          have c30b0 := eq_true c30
          have c30b1 : decide (ji6 ≤ (a2.size : Int)) = true := decide_eq_true c30
          clear c30
          replace H := Option.bind_eq_some_iff.mp H
          obtain ⟨t117, A310, H⟩ := H
          replace H : ((crc_Sum.f (strOfNums x8_1)).bind fun t118 => (if (Go.bits .xor .u32 (Go.bits .xor .u32 t115 t116) t117) = t118 then ((boomeranglaw2_awake.f).bind fun t119 => (some t119)) else (some false))) = some r := H
          have A31 := Aside0.mk A310
          clear A310
          replace H := Option.bind_eq_some_iff.mp H
          obtain ⟨t118, A320, H⟩ := H
          replace H : (if (Go.bits .xor .u32 (Go.bits .xor .u32 t115 t116) t117) = t118 then ((boomeranglaw2_awake.f).bind fun t119 => (some t119)) else (some false)) = some r := H
          have A32 := Aside0.mk A320
          clear A320
          by_cases c33 : (Go.bits .xor .u32 (Go.bits .xor .u32 t115 t116) t117) = t118
          ·rw [if_pos c33] at H
           have c33b0 : ((Go.bits .xor .u32 (Go.bits .xor .u32 t115 t116) t117) == t118) = true := beq_iff_eq.mpr c33
           have c33b1 : ((Go.bits .xor .u32 (Go.bits .xor .u32 t115 t116) t117) != t118) = false := bne_eq_false_iff_eq.mpr c33
           clear c33
           replace H := Option.bind_eq_some_iff.mp H
           obtain ⟨t119, A340, H⟩ := H
           replace H : (some t119) = some r := H
           have A34 := Aside0.mk A340
           clear A340
           obtain rfl := Option.some.inj H
           try go_wp2
           have n0_ := Aside0.mk (Kd.R_drew HO_8.out)
           have n1_ := Aside0.mk (below_drew1 HB.out)
           clear HO_8
           clear HB
           have HO_8 := n0_
           have HB := n1_
           clear n0_ n1_
           refine start_ (n := 22) (S := fun w' => (convert 22 9 v112).run Try.prog w' = .ok (.string (strOfNums x8_1)) w') (ds := []) #[false, false, false, false, false, false, false, false, false, false, false, false, false, false, false, false, false, false, false, false, false, false] (by kernel_rfl) rfl rfl (own_string (P := Try.prog) Try.underlying22 Try.underlying5 Try.underlying9 (Kd.own_of_R HO_8.out)) (fun hHeld => ?_); refine with_tabW boomeranglaw2_CrcMix.tab7 boomeranglaw2_CrcMix.bits7 (fun HT_ HW_ => ?_)
           generalize wr.drew = w35 at HO_8 HB hHeld ⊢
           refine pure_ (i := 0) (N := some 38) (v := ?_) (a' := ?_) #[true, false, false, false, false, false, false, false, false, false, false, false, false, false, false, false, false, false, false, false, false, false] rfl rfl (any_of HT_.out (by kernel_rfl)) (fun _ _ _ h => h) (Or.inl ⟨by rfl, ?_⟩) ?_ ?_
           rotate_left
           ·intro w'
            go_simp
            with_reducible rfl
           rotate_left
           ·simp only [Act.put, List.setIfInBounds_toArray, List.set_cons_zero, List.set_cons_succ, i64_w, i32_w]
            rfl
           refine pure_ (i := 1) (N := some 39) (v := ?_) (a' := ?_) #[true, true, false, false, false, false, false, false, false, false, false, false, false, false, false, false, false, false, false, false, false, false] rfl rfl (any_of HT_.out (by kernel_rfl)) (fun _ _ _ h => h) (Or.inl ⟨by rfl, ?_⟩) ?_ ?_
           rotate_left
           ·intro w'
            go_simp
            with_reducible rfl
           rotate_left
           ·simp only [Act.put, List.setIfInBounds_toArray, List.set_cons_zero, List.set_cons_succ, i64_w, i32_w]
            rfl
           refine pure_ (i := 2) (N := some 40) (v := ?_) (a' := ?_) #[true, true, true, false, false, false, false, false, false, false, false, false, false, false, false, false, false, false, false, false, false, false] rfl rfl (any_of HT_.out (by kernel_rfl)) (fun _ _ _ h => h) (Or.inl ⟨by rfl, ?_⟩) ?_ ?_
           rotate_left
           ·intro w'
            go_simp
            with_reducible rfl
           rotate_left
           ·simp only [Act.put, List.setIfInBounds_toArray, List.set_cons_zero, List.set_cons_succ, i64_w, i32_w]
            rfl
           refine pure_ (i := 4) (N := some 42) (v := ?_) (a' := ?_) #[true, true, true, false, true, false, false, false, false, false, false, false, false, false, false, false, false, false, false, false, false, false] rfl rfl (any_of HT_.out (by kernel_rfl)) (fun _ _ _ h => h) (Or.inl ⟨by rfl, ?_⟩) ?_ ?_
           rotate_left
           ·intro w'
            go_simp
            with_reducible rfl
           rotate_left
           ·simp only [Act.put, List.setIfInBounds_toArray, List.set_cons_zero, List.set_cons_succ, i64_w, i32_w]
            rfl
           refine pure_ (i := 5) (N := some 43) (v := ?_) (a' := ?_) #[true, true, true, false, true, true, false, false, false, false, false, false, false, false, false, false, false, false, false, false, false, false] rfl rfl (any_of HT_.out (by kernel_rfl)) (fun _ _ _ h => h) (Or.inl ⟨by rfl, ?_⟩) ?_ ?_
           rotate_left
           ·intro w'
            go_simp
            with_reducible rfl
           rotate_left
           ·simp only [Act.put, List.setIfInBounds_toArray, List.set_cons_zero, List.set_cons_succ, i64_w, i32_w]
            rfl
           refine pure_ (i := 6) (N := some 44) (v := ?_) (a' := ?_) #[true, true, true, false, true, true, true, false, false, false, false, false, false, false, false, false, false, false, false, false, false, false] rfl rfl (any_of HT_.out (by kernel_rfl)) (fun _ _ _ h => h) (Or.inl ⟨by rfl, ?_⟩) ?_ ?_
           rotate_left
           ·intro w'
            go_simp
            with_reducible rfl
           rotate_left
           ·simp only [Act.put, List.setIfInBounds_toArray, List.set_cons_zero, List.set_cons_succ, i64_w, i32_w]
            rfl
           refine pure_ (i := 9) (N := some 47) (v := ?_) (a' := ?_) #[true, true, true, false, true, true, true, false, false, true, false, false, false, false, false, false, false, false, false, false, false, false] rfl rfl (any_of HT_.out (by kernel_rfl)) (fun _ _ _ h => h) (Or.inl ⟨by rfl, ?_⟩) ?_ ?_
           rotate_left
           ·intro w'
            go_simp
            with_reducible rfl
           rotate_left
           ·simp only [Act.put, List.setIfInBounds_toArray, List.set_cons_zero, List.set_cons_succ, i64_w, i32_w]
            rfl
           refine pure_ (i := 10) (N := some 48) (v := ?_) (a' := ?_) #[true, true, true, false, true, true, true, false, false, true, true, false, false, false, false, false, false, false, false, false, false, false] rfl rfl (any_of HT_.out (by kernel_rfl)) (fun _ _ _ h => h) (Or.inl ⟨by rfl, ?_⟩) ?_ ?_
           rotate_left
           ·intro w'
            go_simp
            with_reducible rfl
           rotate_left
           ·simp only [Act.put, List.setIfInBounds_toArray, List.set_cons_zero, List.set_cons_succ, i64_w, i32_w]
            rfl
           refine pure_ (i := 11) (N := some 49) (v := ?_) (a' := ?_) #[true, true, true, false, true, true, true, false, false, true, true, true, false, false, false, false, false, false, false, false, false, false] rfl rfl (any_of HT_.out (by kernel_rfl)) (fun _ _ _ h => h) (Or.inl ⟨by rfl, ?_⟩) ?_ ?_
           rotate_left
           ·intro w'
            go_simp
            with_reducible rfl
           rotate_left
           ·simp only [Act.put, List.setIfInBounds_toArray, List.set_cons_zero, List.set_cons_succ, i64_w, i32_w]
            rfl
           refine pure_ (i := 14) (N := some 52) (v := ?_) (a' := ?_) #[true, true, true, false, true, true, true, false, false, true, true, true, false, false, true, false, false, false, false, false, false, false] rfl rfl (any_of HT_.out (by kernel_rfl)) (fun _ _ _ h => h) (Or.inl ⟨by rfl, ?_⟩) ?_ ?_
           rotate_left
           ·intro w'
            go_simp
            with_reducible rfl
           rotate_left
           ·simp only [Act.put, List.setIfInBounds_toArray, List.set_cons_zero, List.set_cons_succ, i64_w, i32_w]
            rfl
           refine take_ (i := 15) (N := some 53) (v := ?_) (a' := ?_) #[true, true, true, false, true, true, true, false, false, true, true, true, false, false, true, true, false, false, false, false, false, false] rfl rfl (take_ofW HT_.out HW_.out (by kernel_rfl)) (fun _ _ _ h => h) (Or.inl ⟨by rfl, ?_⟩) hHeld ?_ ?_
           rotate_left
           ·intro w' s0
            go_simp
            with_reducible rfl
           rotate_left
           ·simp only [Act.put, List.setIfInBounds_toArray, List.set_cons_zero, List.set_cons_succ, i64_w, i32_w]
            rfl
           refine one_ (i := 3) (N := some 41) #[true, true, true, true, true, true, true, false, false, true, true, true, false, false, true, true, false, false, false, false, false, false] rfl rfl (one_of HT_.out (by kernel_rfl)) (by decide) (fun K hK => ?_)
           refine goes_ Try.func12 (by kernel_rfl) rfl #[.string (a0.extract 0 (ji6 : Int).toNat)] (by rfl) rfl rfl (by (try simp only [List.map_toArray, List.map_cons, List.map_nil]); first | done | (simp only [hji6]; rfl) | rfl | (simp only [List.length_drop, List.length_take]; rfl)) ?_
           with_reducible refine (crc_Sum.calls (a0.extract 0 (ji6 : Int).toNat) t115 _ A25.out).mono ?_
           rintro e w36 ⟨rfl, hb⟩
           refine ⟨_, rfl, ?_⟩
           have n0_ := Aside0.mk (Kd.R_below (by (with_reducible repeat (first | apply Kd.R_alloc | apply Kd.R_drewN | apply Kd.R_drew)); exact HO_8.out) hb)
           have n1_ := Aside0.mk (below_step (by repeat (first | (with_reducible first | exact HB.out | apply below_alloc | apply pw_below_drewN | apply below_drew1) | exact HB.out)) hb)
           clear HO_8
           clear HB
           have HO_8 := n0_
           have HB := n1_
           clear n0_ n1_
           (try clear hb)
           (try clear hb2)
           (try clear hk)
           (try clear hi)
           refine hK.out _ _ (own_string (P := Try.prog) Try.underlying22 Try.underlying5 Try.underlying9 (Kd.own_of_R HO_8.out)) (fun hHeld => ?_)
           clear hK K
           refine norm_ (a' := ?_) ?_ ?_
           rotate_left
           ·show Act.put _ (some 41) _ = _
            simp only [Act.put, List.setIfInBounds_toArray, List.set_cons_zero, List.set_cons_succ, i64_w, i32_w]
            rfl
           refine one_ (i := 7) (N := some 45) #[true, true, true, true, true, true, true, true, false, true, true, true, false, false, true, true, false, false, false, false, false, false] rfl rfl (one_of HT_.out (by kernel_rfl)) (by decide) (fun K hK => ?_)
           refine goes_ Try.func12 (by kernel_rfl) rfl #[.string (a1.extract 0 (ji6 : Int).toNat)] (by rfl) rfl rfl (by (try simp only [List.map_toArray, List.map_cons, List.map_nil]); first | done | (simp only [hji6]; rfl) | rfl | (simp only [List.length_drop, List.length_take]; rfl)) ?_
           with_reducible refine (crc_Sum.calls (a1.extract 0 (ji6 : Int).toNat) t116 _ A28.out).mono ?_
           rintro e w37 ⟨rfl, hb⟩
           refine ⟨_, rfl, ?_⟩
           have n0_ := Aside0.mk (Kd.R_below (by (with_reducible repeat (first | apply Kd.R_alloc | apply Kd.R_drewN | apply Kd.R_drew)); exact HO_8.out) hb)
           have n1_ := Aside0.mk (below_step (by repeat (first | (with_reducible first | exact HB.out | apply below_alloc | apply pw_below_drewN | apply below_drew1) | exact HB.out)) hb)
           clear HO_8
           clear HB
           have HO_8 := n0_
           have HB := n1_
           clear n0_ n1_
           (try clear hb)
           (try clear hb2)
           (try clear hk)
           (try clear hi)
           refine hK.out _ _ (own_string (P := Try.prog) Try.underlying22 Try.underlying5 Try.underlying9 (Kd.own_of_R HO_8.out)) (fun hHeld => ?_)
           clear hK K
           refine norm_ (a' := ?_) ?_ ?_
           rotate_left
           ·show Act.put _ (some 45) _ = _
            simp only [Act.put, List.setIfInBounds_toArray, List.set_cons_zero, List.set_cons_succ, i64_w, i32_w]
            rfl
           refine pure_ (i := 8) (N := some 46) (v := ?_) (a' := ?_) #[true, true, true, true, true, true, true, true, true, true, true, true, false, false, true, true, false, false, false, false, false, false] rfl rfl (any_of HT_.out (by kernel_rfl)) (fun _ _ _ h => h) (Or.inl ⟨by rfl, ?_⟩) ?_ ?_
           rotate_left
           ·intro w'
            go_simp
            with_reducible rfl
           rotate_left
           ·simp only [Act.put, List.setIfInBounds_toArray, List.set_cons_zero, List.set_cons_succ, i64_w, i32_w]
            rfl
           refine one_ (i := 12) (N := some 50) #[true, true, true, true, true, true, true, true, true, true, true, true, true, false, true, true, false, false, false, false, false, false] rfl rfl (one_of HT_.out (by kernel_rfl)) (by decide) (fun K hK => ?_)
           refine goes_ Try.func12 (by kernel_rfl) rfl #[.string (a2.extract 0 (ji6 : Int).toNat)] (by rfl) rfl rfl (by (try simp only [List.map_toArray, List.map_cons, List.map_nil]); first | done | (simp only [hji6]; rfl) | rfl | (simp only [List.length_drop, List.length_take]; rfl)) ?_
           with_reducible refine (crc_Sum.calls (a2.extract 0 (ji6 : Int).toNat) t117 _ A31.out).mono ?_
           rintro e w38 ⟨rfl, hb⟩
           refine ⟨_, rfl, ?_⟩
           have n0_ := Aside0.mk (Kd.R_below (by (with_reducible repeat (first | apply Kd.R_alloc | apply Kd.R_drewN | apply Kd.R_drew)); exact HO_8.out) hb)
           have n1_ := Aside0.mk (below_step (by repeat (first | (with_reducible first | exact HB.out | apply below_alloc | apply pw_below_drewN | apply below_drew1) | exact HB.out)) hb)
           clear HO_8
           clear HB
           have HO_8 := n0_
           have HB := n1_
           clear n0_ n1_
           (try clear hb)
           (try clear hb2)
           (try clear hk)
           (try clear hi)
           refine hK.out _ _ (own_string (P := Try.prog) Try.underlying22 Try.underlying5 Try.underlying9 (Kd.own_of_R HO_8.out)) (fun hHeld => ?_)
           clear hK K
           refine norm_ (a' := ?_) ?_ ?_
           rotate_left
           ·show Act.put _ (some 50) _ = _
            simp only [Act.put, List.setIfInBounds_toArray, List.set_cons_zero, List.set_cons_succ, i64_w, i32_w]
            rfl
           refine pure_ (i := 13) (N := some 51) (v := ?_) (a' := ?_) #[true, true, true, true, true, true, true, true, true, true, true, true, true, true, true, true, false, false, false, false, false, false] rfl rfl (any_of HT_.out (by kernel_rfl)) (fun _ _ _ h => h) (Or.inl ⟨by rfl, ?_⟩) ?_ ?_
           rotate_left
           ·intro w'
            go_simp
            with_reducible rfl
           rotate_left
           ·simp only [Act.put, List.setIfInBounds_toArray, List.set_cons_zero, List.set_cons_succ, i64_w, i32_w]
            rfl
           refine one_ (i := 16) (N := some 54) #[true, true, true, true, true, true, true, true, true, true, true, true, true, true, true, true, true, false, false, false, false, false] rfl rfl (one_of HT_.out (by kernel_rfl)) (by decide) (fun K hK => ?_)
           refine goes_ Try.func12 (by kernel_rfl) rfl #[.string (strOfNums x8_1)] (by rfl) rfl rfl (by (try simp only [List.map_toArray, List.map_cons, List.map_nil]); first | done | rfl | (simp only [List.length_drop, List.length_take]; rfl)) ?_
           with_reducible refine (crc_Sum.calls (strOfNums x8_1) t118 _ A32.out).mono ?_
           rintro e w40 ⟨rfl, hb⟩
           refine ⟨_, rfl, ?_⟩
           have n0_ := Aside0.mk (Kd.R_below (by (with_reducible repeat (first | apply Kd.R_alloc | apply Kd.R_drewN | apply Kd.R_drew)); exact HO_8.out) hb)
           have n1_ := Aside0.mk (below_step (by repeat (first | (with_reducible first | exact HB.out | apply below_alloc | apply pw_below_drewN | apply below_drew1) | exact HB.out)) hb)
           clear HO_8
           clear HB
           have HO_8 := n0_
           have HB := n1_
           clear n0_ n1_
           (try clear hb)
           (try clear hb2)
           (try clear hk)
           (try clear hi)
           refine hK.out _ _ (own_string (P := Try.prog) Try.underlying22 Try.underlying5 Try.underlying9 (Kd.own_of_R HO_8.out)) (fun hHeld => ?_)
           clear hK K
           refine norm_ (a' := ?_) ?_ ?_
           rotate_left
           ·show Act.put _ (some 54) _ = _
            simp only [Act.put, List.setIfInBounds_toArray, List.set_cons_zero, List.set_cons_succ, i64_w, i32_w]
            rfl
           refine pure_ (i := 17) (N := some 55) (v := ?_) (a' := ?_) #[true, true, true, true, true, true, true, true, true, true, true, true, true, true, true, true, true, true, false, false, false, false] rfl rfl (any_of HT_.out (by kernel_rfl)) (fun _ _ _ h => h) (Or.inl ⟨by rfl, ?_⟩) ?_ ?_
           rotate_left
           ·intro w'
            go_simp
            with_reducible rfl
           rotate_left
           ·simp only [Act.put, List.setIfInBounds_toArray, List.set_cons_zero, List.set_cons_succ, i64_w, i32_w]
            rfl
           refine pure_ (i := 18) (N := some 56) (v := ?_) (a' := ?_) #[true, true, true, true, true, true, true, true, true, true, true, true, true, true, true, true, true, true, true, false, false, false] rfl rfl (any_of HT_.out (by kernel_rfl)) (fun _ _ _ h => h) (Or.inl ⟨by rfl, ?_⟩) ?_ ?_
           rotate_left
           ·intro w'
            go_simp
            with_reducible rfl
           rotate_left
           ·simp only [Act.put, List.setIfInBounds_toArray, List.set_cons_zero, List.set_cons_succ, i64_w, i32_w]
            rfl
           refine one_ (i := 19) (N := some 57) #[true, true, true, true, true, true, true, true, true, true, true, true, true, true, true, true, true, true, true, true, false, false] rfl rfl (one_of HT_.out (by kernel_rfl)) (by decide) (fun K hK => ?_)
           refine goes_ Try.func13 (by kernel_rfl) rfl #[] (by rfl) rfl rfl (by (try simp only [List.map_toArray, List.map_cons, List.map_nil]); first | done | rfl | (simp only [List.length_drop, List.length_take]; rfl)) ?_
           with_reducible refine (boomeranglaw2_awake.calls  t119 _ A34.out).mono ?_
           rintro e w41 ⟨rfl, hb⟩
           refine ⟨_, rfl, ?_⟩
           have n0_ := Aside0.mk (Kd.R_below (by (with_reducible repeat (first | apply Kd.R_alloc | apply Kd.R_drewN | apply Kd.R_drew)); exact HO_8.out) hb)
           have n1_ := Aside0.mk (below_step (by repeat (first | (with_reducible first | exact HB.out | apply below_alloc | apply pw_below_drewN | apply below_drew1) | exact HB.out)) hb)
           clear HO_8
           clear HB
           have HO_8 := n0_
           have HB := n1_
           clear n0_ n1_
           (try clear hb)
           (try clear hb2)
           (try clear hk)
           (try clear hi)
           refine hK.out _ _ (own_string (P := Try.prog) Try.underlying22 Try.underlying5 Try.underlying9 (Kd.own_of_R HO_8.out)) (fun hHeld => ?_)
           clear hK K
           refine norm_ (a' := ?_) ?_ ?_
           rotate_left
           ·show Act.put _ (some 57) _ = _
            simp only [Act.put, List.setIfInBounds_toArray, List.set_cons_zero, List.set_cons_succ, i64_w, i32_w]
            rfl
           refine pure_ (i := 20) (N := some 58) (v := ?_) (a' := ?_) #[true, true, true, true, true, true, true, true, true, true, true, true, true, true, true, true, true, true, true, true, true, false] rfl rfl (any_of HT_.out (by kernel_rfl)) (fun _ _ _ h => h) (Or.inl ⟨by rfl, ?_⟩) ?_ ?_
           rotate_left
           ·intro w'
            go_simp
            with_reducible rfl
           rotate_left
           ·simp only [Act.put, List.setIfInBounds_toArray, List.set_cons_zero, List.set_cons_succ, i64_w, i32_w]
            rfl
           refine pure_ (i := 21) (N := some 6) (v := ?_) (a' := ?_) #[true, true, true, true, true, true, true, true, true, true, true, true, true, true, true, true, true, true, true, true, true, true] rfl rfl (any_of HT_.out (by kernel_rfl)) (fun _ _ _ h => h) (Or.inl ⟨by rfl, ?_⟩) ?_ ?_
           rotate_left
           ·intro w'
            go_simp
            with_reducible rfl
           rotate_left
           ·simp only [Act.put, List.setIfInBounds_toArray, List.set_cons_zero, List.set_cons_succ, i64_w, i32_w]
            rfl
           refine done_ (done_of HT_.out (by kernel_rfl)) ?_
           try go_wp2
           go_ret
           exact ⟨by first | rfl | (simp [errW_none, errW_some] <;> rfl) | (simp only [← hji4, ← hji5, ← hji6]; first | rfl | (simp [errW_none, errW_some] <;> rfl)) | (simp [*, errW_none, errW_some] <;> rfl), by repeat (first | (with_reducible first | exact HB.out | apply below_alloc | apply pw_below_drewN | apply below_drew1) | exact HB.out)⟩
          ·rw [if_neg c33] at H
           exact absurd (H.trans (congrArg some HRT.out)) (by simp)
         ·rw [if_neg c30] at H
          exact absurd H (by simp)
        ·rw [if_neg c27] at H
         exact absurd H (by simp)
       ·rw [if_neg c24] at H
        exact absurd H (by simp)
      ·rw [if_neg c23] at H
       exact absurd H (by simp)
  ·rw [if_neg c8] at H
   exact absurd H (by simp)
 ·rw [if_neg c7] at H
  exact absurd H (by simp)

/-- THE ONE PURE STATEMENT of boomeranglaw2_CrcMix: yours. -/
def boomeranglaw2_CrcMix.Pure : Prop := ∀ (a0 : ByteArray) (a1 : ByteArray) (a2 : ByteArray), a0.size ≤ 140737488351232 → a1.size ≤ 140737488351232 → a2.size ≤ 140737488351232 → ∃ k, boomeranglaw2_CrcMix.f k a0 a1 a2 = some true
theorem boomeranglaw2_CrcMix.walk (P : boomeranglaw2_CrcMix.Pure) (a0 : ByteArray) (a1 : ByteArray) (a2 : ByteArray) (w : World) (w0 : a0.size ≤ 140737488351232) (w1 : a1.size ≤ 140737488351232) (w2 : a2.size ≤ 140737488351232) :
  Calls Try.prog 3 #[.string a0, .string a1, .string a2] w fun e w' => e = .returned (.bool true) ∧ Below w.heap.size w w' := by
 obtain ⟨k, h⟩ := P a0 a1 a2 w0 w1 w2
 refine (boomeranglaw2_CrcMix.calls k a0 a1 a2 true w h rfl).mono ?_
 rintro e w' ⟨rfl, hd⟩
 exact ⟨rfl, hd⟩

end Go.Proofs.Ythhigjfkekdmiaa.M
