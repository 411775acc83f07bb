-- Written by a program of this session (wip/tools/mine.sh), out of the translation and hand-given contracts.
import Derived.Test.YtmdcpmfanpopgaaM0
import Derived.Test.YtmdcpmfanpopgaaM8
namespace Go.Proofs.Ytmdcpmfanpopgaa.M
open Go.RowKit Go.Proofs.YtmdcpmfanpopgaaW.PrintWords Go.Proofs.YtmdcpmfanpopgaaW.PrintLast Go.Proofs.YtmdcpmfanpopgaaW.PrintMore
attribute [local go_sem] max2_int min2_int max_two min_two max_three min_three max_four min_four   -- for this text's walks alone
set_option linter.unusedVariables false
set_option linter.unusedSimpArgs false

/-! ### vint_text: function 42 -/
def vint_text.j0 : Nat → ByteArray → Int → Int → Bool → Option (ByteArray × Int × Int)
 | 0, _, _, _, _ => none
 | k + 1, x0, x5, x6, x17 => if x17 = true then (some ((⟨#[]⟩ : ByteArray), 0, 4)) else (if (wrap64 ((x0.size : Int) - x6)) < x5 then (some ((⟨#[]⟩ : ByteArray), 0, 3)) else (if 0 ≤ x6 then (if x6 ≤ (wrap64 (x6 + x5)) then (if (wrap64 (x6 + x5)) ≤ (x0.size : Int) then (some (x0.extract (x6 : Int).toNat ((wrap64 (x6 + x5)) : Int).toNat, wrap64 (x6 + x5), 0)) else (none)) else (none)) else (none)))
def vint_text.f (k : Nat) (a0 : ByteArray) : Option (ByteArray × Int × Int) := (vint_read.f k a0).bind fun bt144 => (if bt144.2.2 = 0 then (if bt144.1 < 0 then (vint_text.j0 k a0 bt144.1 bt144.2.1 true) else (vint_text.j0 k a0 bt144.1 bt144.2.1 (decide (bt144.1 > 4096)))) else (some ((⟨#[]⟩ : ByteArray), 0, bt144.2.2)))
theorem vint_text.mono_l : ∀ k, (∀ y0 y1 y2 y3, LeO (vint_text.j0 k y0 y1 y2 y3) (vint_text.j0 (k + 1) y0 y1 y2 y3))
 | 0 => fun _ _ _ _ r h => by simp [vint_text.j0] at h
 | k + 1 => by
  have ih0 := vint_text.mono_l k
  ·intro y0 y1 y2 y3
   unfold vint_text.j0
   repeat' first
   | (with_reducible exact ih0 _ _ _ _)
   | (with_reducible exact vint_read.mono _ _)
   | (with_reducible exact LeO.refl _)
   | (with_reducible exact LeO.none _)
   | (with_reducible refine LeO.ite ?_ ?_)
   | (with_reducible refine LeO.bind ?_ (fun _ => ?_))
   | exact ih0 _ _ _ _
   | exact vint_read.mono _ _
   | exact LeO.none _
   | refine LeO.ite ?_ ?_
   | refine LeO.bind ?_ (fun _ => ?_)
theorem vint_text.mono : ∀ a0 k, LeO (vint_text.f k a0) (vint_text.f (k + 1) a0) := by
 intro a0 k
 have ih0 := vint_text.mono_l k
 unfold vint_text.f
 repeat' first
   | (with_reducible exact ih0 _ _ _ _)
   | (with_reducible exact vint_read.mono _ _)
   | (with_reducible exact LeO.refl _)
   | (with_reducible exact LeO.none _)
   | (with_reducible refine LeO.ite ?_ ?_)
   | (with_reducible refine LeO.bind ?_ (fun _ => ?_))
   | exact ih0 _ _ _ _
   | exact vint_read.mono _ _
   | exact LeO.none _
   | refine LeO.ite ?_ ?_
   | refine LeO.bind ?_ (fun _ => ?_)
set_option maxHeartbeats 8000000 in
set_option maxRecDepth 100000 in
theorem vint_text.calls (k : Nat) (a0 : ByteArray) (r1 : ByteArray) (r2 : Int) (r3 : Int) (w : World) (h : vint_text.f k a0 = some (r1, r2, r3)) :
  Calls Try.prog 42 #[.string a0] w fun e w' => e = .returned (.tuple #[.string r1, .int .i64 r2, .int .i64 r3]) ∧ Below w.heap.size w w' := by
 have HB := Aside0.mk (Below.refl w.heap.size w)
 have H : ((vint_read.f k a0).bind fun bt144 => (if bt144.2.2 = 0 then (if bt144.1 < 0 then (vint_text.j0 k a0 bt144.1 bt144.2.1 true) else (vint_text.j0 k a0 bt144.1 bt144.2.1 (decide (bt144.1 > 4096)))) else (some ((⟨#[]⟩ : ByteArray), 0, bt144.2.2)))) = some (r1, r2, r3) := h
 clear h
 replace H := Option.bind_eq_some_iff.mp H
 obtain ⟨⟨t144, t145, t146⟩, A20, H⟩ := H
 replace H : (if t146 = 0 then (if t144 < 0 then (vint_text.j0 k a0 t144 t145 true) else (vint_text.j0 k a0 t144 t145 (decide (t144 > 4096)))) else (some ((⟨#[]⟩ : ByteArray), 0, t146))) = some (r1, r2, r3) := H
 have A2 := Aside0.mk A20
 clear A20
 by_cases c3 : t146 = 0
 ·rw [if_pos c3] at H
  have c3b0 : (t146 == 0) = true := beq_iff_eq.mpr c3
  have c3b1 : (t146 != 0) = false := bne_eq_false_iff_eq.mpr c3
  clear c3
  have HC4 := Aside0.mk H
  clear H
  go_enter Try.func42, Try.ntmps42
  go_upto_region 4 with (first | ((with_reducible refine gate_callee (f := 40) rfl ?_); refine goesL_ (some 9) rfl rfl Try.func40 (by kernel_rfl) rfl #[.string a0] rfl (by (try simp only [List.map_toArray, List.map_cons, List.map_nil]); first | done | rfl | (simp only [List.length_drop, List.length_take]; rfl)) ?_; (with_reducible refine (vint_read.calls k a0 t144 t145 t146 _ A2.out).mono ?_); rintro e w5 ⟨rfl, hb⟩; refine ⟨_, rfl, ?_⟩; have n0_ := Aside0.mk (below_step (by repeat (first | (with_reducible first | exact HB.out | apply below_alloc | apply pw_below_drewN | apply below_drew1) | exact HB.out)) hb); clear HB; have HB := n0_; clear n0_; (try clear hb); (try clear hb2); (try clear hk); (try clear hi)))
  (try simp only [Act.put, List.setIfInBounds_toArray, List.set_cons_zero, List.set_cons_succ])
  go_cut [17] (fun v17 wc => ∃ (kq : Nat) (x17_3 : Bool), v17 = .bool x17_3 ∧ Aside0 (vint_text.j0 kq a0 t144 t145 x17_3 = some (r1, r2, r3)) ∧ Aside0 (kq ≤ k) ∧ Aside0 (Below w.heap.size w wc))
  case first =>
   have H := HC4.out
   clear HC4
   by_cases c6 : t144 < 0
   ·rw [if_pos c6] at H
    have c6b0 : decide (t144 < 0) = true := decide_eq_true c6
    clear c6
    (first | rw [c6b0] | (simp only [i64_w, i32_w]; rw [c6b0]) | skip)
    have H' := Aside0.mk H
    clear H
    go_wp2
    go_meet
    case rel => exact ⟨_, (true), (by first | rfl | (simp; done) | (simp [*]; done)), H', ⟨by first | omega | exact Nat.le_refl _⟩, ⟨by repeat (first | (with_reducible first | exact HB.out | apply below_alloc | apply pw_below_drewN | apply below_drew1) | exact HB.out)⟩⟩
   ·rw [if_neg c6] at H
    have c6b0 : decide (t144 < 0) = false := decide_eq_false c6
    clear c6
    (first | rw [c6b0] | (simp only [i64_w, i32_w]; rw [c6b0]) | skip)
    have H' := Aside0.mk H
    clear H
    go_wp2
    go_meet
    case rel => exact ⟨_, (decide (t144 > 4096)), (by first | rfl | (simp; done) | (simp [*]; done)), H', ⟨by first | omega | exact Nat.le_refl _⟩, ⟨by repeat (first | (with_reducible first | exact HB.out | apply below_alloc | apply pw_below_drewN | apply below_drew1) | exact HB.out)⟩⟩
  case rest =>
   clear HC4
   try clear p2
   try clear c3
   try clear c3b0
   try clear c3b1
   try clear c4
   try clear c6
   try clear c6b0
   obtain ⟨kq, x17_3, rfl, HA, HJ3, HB⟩ := hcut
   cases kq with
   | zero => exact absurd HA.out (by simp [vint_text.j0])
   | succ kj3 =>
    have H := HA.out
    clear HA
    simp only [vint_text.j0] at H
    by_cases c7 : x17_3 = true
    ·subst c7
     have H1 : (some ((⟨#[]⟩ : ByteArray), 0, 4)) = some (r1, r2, r3) := by rw [if_pos rfl] at H; exact H
     clear H
     have H := H1
     clear H1
     simp only [Option.some.injEq, Prod.mk.injEq] at H
     obtain ⟨rfl, rfl, rfl⟩ := H
     go_wp2
     go_ret3
     exact ⟨by first | rfl | (simp [errW_none, errW_some] <;> rfl) | (simp [*, errW_none, errW_some] <;> rfl), by repeat (first | (with_reducible first | exact HB.out | apply below_alloc | apply pw_below_drewN | apply below_drew1) | exact HB.out)⟩
    ·replace c7 := Bool.eq_false_iff.mpr c7
     subst c7
     have H1 : (if (wrap64 ((a0.size : Int) - t145)) < t144 then (some ((⟨#[]⟩ : ByteArray), 0, 3)) else (if 0 ≤ t145 then (if t145 ≤ (wrap64 (t145 + t144)) then (if (wrap64 (t145 + t144)) ≤ (a0.size : Int) then (some (a0.extract (t145 : Int).toNat ((wrap64 (t145 + t144)) : Int).toNat, wrap64 (t145 + t144), 0)) else (none)) else (none)) else (none))) = some (r1, r2, r3) := by rw [if_neg (show ¬ (false = true) by decide)] at H; exact H
     clear H
     have H := H1
     clear H1
     by_cases c8 : (wrap64 ((a0.size : Int) - t145)) < t144
     ·rw [if_pos c8] at H
      have c8b0 : decide ((wrap64 ((a0.size : Int) - t145)) < t144) = true := decide_eq_true c8
      clear c8
      simp only [Option.some.injEq, Prod.mk.injEq] at H
      obtain ⟨rfl, rfl, rfl⟩ := H
      go_wp2
      go_ret3
      exact ⟨by first | rfl | (simp [errW_none, errW_some] <;> rfl) | (simp [*, errW_none, errW_some] <;> rfl), by repeat (first | (with_reducible first | exact HB.out | apply below_alloc | apply pw_below_drewN | apply below_drew1) | exact HB.out)⟩
     ·rw [if_neg c8] at H
      have c8b0 : decide ((wrap64 ((a0.size : Int) - t145)) < t144) = false := decide_eq_false c8
      clear c8
      by_cases c9 : 0 ≤ t145
      ·rw [if_pos c9] at H
       have c9b0 := eq_true c9
       have c9b1 : decide (0 ≤ t145) = true := decide_eq_true c9
       clear c9
       by_cases c10 : t145 ≤ (wrap64 (t145 + t144))
       ·rw [if_pos c10] at H
        have c10b0 := eq_true c10
        have c10b1 : decide (t145 ≤ (wrap64 (t145 + t144))) = true := decide_eq_true c10
        by_cases c11 : (wrap64 (t145 + t144)) ≤ (a0.size : Int)
        ·rw [if_pos c11] at H
         have c11b0 := eq_true c11
         have c11b1 : decide ((wrap64 (t145 + t144)) ≤ (a0.size : Int)) = true := decide_eq_true c11
         simp only [Option.some.injEq, Prod.mk.injEq] at H
         obtain ⟨rfl, rfl, rfl⟩ := H
         go_wp2
         go_ret3
         exact ⟨by first | rfl | (simp [errW_none, errW_some] <;> rfl) | (simp [*, errW_none, errW_some] <;> rfl), by repeat (first | (with_reducible first | exact HB.out | apply below_alloc | apply pw_below_drewN | apply below_drew1) | exact HB.out)⟩
        ·rw [if_neg c11] at H
         exact absurd H (by simp)
       ·rw [if_neg c10] at H
        exact absurd H (by simp)
      ·rw [if_neg c9] at H
       exact absurd H (by simp)
 ·rw [if_neg c3] at H
  have c3b0 : (t146 == 0) = false := beq_eq_false_iff_ne.mpr c3
  have c3b1 : (t146 != 0) = true := bne_iff_ne.mpr c3
  simp only [Option.some.injEq, Prod.mk.injEq] at H
  obtain ⟨rfl, rfl, rfl⟩ := H
  go_enter Try.func42, Try.ntmps42
  go_wp2_with (first | ((with_reducible refine gate_callee (f := 40) rfl ?_); refine goesL_ (some 9) rfl rfl Try.func40 (by kernel_rfl) rfl #[.string a0] rfl (by (try simp only [List.map_toArray, List.map_cons, List.map_nil]); first | done | rfl | (simp only [List.length_drop, List.length_take]; rfl)) ?_; (with_reducible refine (vint_read.calls k a0 t144 t145 t146 _ A2.out).mono ?_); rintro e w12 ⟨rfl, hb⟩; refine ⟨_, rfl, ?_⟩; have n0_ := Aside0.mk (below_step (by repeat (first | (with_reducible first | exact HB.out | apply below_alloc | apply pw_below_drewN | apply below_drew1) | exact HB.out)) hb); clear HB; have HB := n0_; clear n0_; (try clear hb); (try clear hb2); (try clear hk); (try clear hi)))
  go_ret3
  exact ⟨by first | rfl | (simp [errW_none, errW_some] <;> rfl) | (simp [*, errW_none, errW_some] <;> rfl), by repeat (first | (with_reducible first | exact HB.out | apply below_alloc | apply pw_below_drewN | apply below_drew1) | exact HB.out)⟩

end Go.Proofs.Ytmdcpmfanpopgaa.M
