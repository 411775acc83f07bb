-- Written by a program of this session (wip/tools/mine.sh), out of the translation and hand-given contracts.
import Derived.Test.YtmdcpmfanpopgaaM0
import Derived.Test.YtmdcpmfanpopgaaM6
import Derived.Test.YtmdcpmfanpopgaaM10
namespace Go.Proofs.Ytmdcpmfanpopgaa.M
open Go.RowKit Go.Proofs.YtmdcpmfanpopgaaW.PrintWords Go.Proofs.YtmdcpmfanpopgaaW.PrintLast Go.Proofs.YtmdcpmfanpopgaaW.PrintMore
attribute [local go_sem] max2_int min2_int max_two min_two max_three min_three max_four min_four   -- for this text's walks alone
set_option linter.unusedVariables false
set_option linter.unusedSimpArgs false

/-! ### vint_placed_string: function 41 -/
def vint_placed_string.j0 : Nat → ByteArray → Int → ByteArray → Bool → Option (ByteArray × Int × Int)
 | 0, _, _, _, _ => none
 | k + 1, x0, x1, x6, x17 => if x17 = true then (some (x6, 0, 1)) else (if 0 ≤ x1 then (if x1 ≤ (x0.size : Int) then ((vint_text.f k (x0.extract (x1 : Int).toNat x0.size)).bind fun bt147 => (if bt147.2.2 = 0 then (some (bt147.1, wrap64 (x1 + bt147.2.1), 0)) else (some (bt147.1, 0, bt147.2.2)))) else (none)) else (none))
def vint_placed_string.f (k : Nat) (a0 : ByteArray) (a1 : Int)  : Option (ByteArray × Int × Int) := if a1 < 0 then (vint_placed_string.j0 k a0 a1 (⟨#[]⟩ : ByteArray) true) else (vint_placed_string.j0 k a0 a1 (⟨#[]⟩ : ByteArray) (decide (a1 > (a0.size : Int))))
theorem vint_placed_string.mono_l : ∀ k, (∀ y0 y1 y2 y3, LeO (vint_placed_string.j0 k y0 y1 y2 y3) (vint_placed_string.j0 (k + 1) y0 y1 y2 y3))
 | 0 => fun _ _ _ _ r h => by simp [vint_placed_string.j0] at h
 | k + 1 => by
  have ih0 := vint_placed_string.mono_l k
  ·intro y0 y1 y2 y3
   unfold vint_placed_string.j0
   repeat' first
   | (with_reducible exact ih0 _ _ _ _)
   | (with_reducible exact vint_text.mono _ _)
   | (with_reducible exact LeO.refl _)
   | (with_reducible exact LeO.none _)
   | (with_reducible refine LeO.ite ?_ ?_)
   | (with_reducible refine LeO.bind ?_ (fun _ => ?_))
   | exact ih0 _ _ _ _
   | exact vint_text.mono _ _
   | exact LeO.none _
   | refine LeO.ite ?_ ?_
   | refine LeO.bind ?_ (fun _ => ?_)
theorem vint_placed_string.mono : ∀ a0 a1 k, LeO (vint_placed_string.f k a0 a1) (vint_placed_string.f (k + 1) a0 a1) := by
 intro a0 a1 k
 have ih0 := vint_placed_string.mono_l k
 unfold vint_placed_string.f
 repeat' first
   | (with_reducible exact ih0 _ _ _ _)
   | (with_reducible exact vint_text.mono _ _)
   | (with_reducible exact LeO.refl _)
   | (with_reducible exact LeO.none _)
   | (with_reducible refine LeO.ite ?_ ?_)
   | (with_reducible refine LeO.bind ?_ (fun _ => ?_))
   | exact ih0 _ _ _ _
   | exact vint_text.mono _ _
   | exact LeO.none _
   | refine LeO.ite ?_ ?_
   | refine LeO.bind ?_ (fun _ => ?_)
set_option maxHeartbeats 8000000 in
set_option maxRecDepth 100000 in
theorem vint_placed_string.calls (k : Nat) (a0 : ByteArray) (a1 : Int)  (r1 : ByteArray) (r2 : Int) (r3 : Int) (w : World) (h : vint_placed_string.f k a0 a1 = some (r1, r2, r3)) :
  Calls Try.prog 41 #[.string a0, .int .i64 a1, .func (.func 42) #[] #[]] w fun e w' => e = .returned (.tuple #[.string r1, .int .i64 r2, .int .i64 r3]) ∧ Below w.heap.size w w' := by
 have HB := Aside0.mk (Below.refl w.heap.size w)
 have H : (if a1 < 0 then (vint_placed_string.j0 k a0 a1 (⟨#[]⟩ : ByteArray) true) else (vint_placed_string.j0 k a0 a1 (⟨#[]⟩ : ByteArray) (decide (a1 > (a0.size : Int))))) = some (r1, r2, r3) := h
 clear h
 have HC4 := Aside0.mk H
 clear H
 go_enter Try.func41, Try.ntmps41
 go_upto_region 1 with (fail)
 go_cut [17] (fun v17 wc => ∃ (kq : Nat) (x17_3 : Bool), v17 = .bool x17_3 ∧ Aside0 (vint_placed_string.j0 kq a0 a1 (⟨#[]⟩ : ByteArray) x17_3 = some (r1, r2, r3)) ∧ Aside0 (kq ≤ k) ∧ Aside0 (Below w.heap.size w wc))
 case first =>
  have H := HC4.out
  clear HC4
  by_cases c5 : a1 < 0
  ·rw [if_pos c5] at H
   have c5b0 : decide (a1 < 0) = true := decide_eq_true c5
   clear c5
   (first | rw [c5b0] | (simp only [i64_w, i32_w]; rw [c5b0]) | skip)
   have H' := Aside0.mk H
   clear H
   go_wp2
   go_meet
   case rel => exact ⟨_, (true), (by first | rfl | (simp; done) | (simp [*]; done)), H', ⟨by first | omega | exact Nat.le_refl _⟩, ⟨by repeat (first | (with_reducible first | exact HB.out | apply below_alloc | apply pw_below_drewN | apply below_drew1) | exact HB.out)⟩⟩
  ·rw [if_neg c5] at H
   have c5b0 : decide (a1 < 0) = false := decide_eq_false c5
   clear c5
   (first | rw [c5b0] | (simp only [i64_w, i32_w]; rw [c5b0]) | skip)
   have H' := Aside0.mk H
   clear H
   go_wp2
   go_meet
   case rel => exact ⟨_, (decide (a1 > (a0.size : Int))), (by first | rfl | (simp; done) | (simp [*]; done)), H', ⟨by first | omega | exact Nat.le_refl _⟩, ⟨by repeat (first | (with_reducible first | exact HB.out | apply below_alloc | apply pw_below_drewN | apply below_drew1) | exact HB.out)⟩⟩
 case rest =>
  clear HC4
  try clear p2
  try clear c4
  try clear c5
  try clear c5b0
  obtain ⟨kq, x17_3, rfl, HA, HJ3, HB⟩ := hcut
  cases kq with
  | zero => exact absurd HA.out (by simp [vint_placed_string.j0])
  | succ kj3 =>
   have H := HA.out
   clear HA
   simp only [vint_placed_string.j0] at H
   by_cases c6 : x17_3 = true
   ·subst c6
    have H1 : (some ((⟨#[]⟩ : ByteArray), 0, 1)) = some (r1, r2, r3) := by rw [if_pos rfl] at H; exact H
    clear H
    have H := H1
    clear H1
    simp only [Option.some.injEq, Prod.mk.injEq] at H
    obtain ⟨rfl, rfl, rfl⟩ := H
    go_wp2
    go_ret3
    exact ⟨by first | rfl | (simp [errW_none, errW_some] <;> rfl) | (simp [*, errW_none, errW_some] <;> rfl), by repeat (first | (with_reducible first | exact HB.out | apply below_alloc | apply pw_below_drewN | apply below_drew1) | exact HB.out)⟩
   ·replace c6 := Bool.eq_false_iff.mpr c6
    subst c6
    have H1 : (if 0 ≤ a1 then (if a1 ≤ (a0.size : Int) then ((vint_text.f kj3 (a0.extract (a1 : Int).toNat a0.size)).bind fun bt147 => (if bt147.2.2 = 0 then (some (bt147.1, wrap64 (a1 + bt147.2.1), 0)) else (some (bt147.1, 0, bt147.2.2)))) else (none)) else (none)) = some (r1, r2, r3) := by rw [if_neg (show ¬ (false = true) by decide)] at H; exact H
    clear H
    have H := H1
    clear H1
    by_cases c7 : 0 ≤ a1
    ·rw [if_pos c7] at H
     have c7b0 := eq_true c7
     have c7b1 : decide (0 ≤ a1) = true := decide_eq_true c7
     clear c7
     by_cases c8 : a1 ≤ (a0.size : Int)
     ·rw [if_pos c8] at H
      have c8b0 := eq_true c8
      have c8b1 : decide (a1 ≤ (a0.size : Int)) = true := decide_eq_true c8
      clear c8
      replace H := Option.bind_eq_some_iff.mp H
      obtain ⟨⟨t147, t148, t149⟩, A90, H⟩ := H
      replace H : (if t149 = 0 then (some (t147, wrap64 (a1 + t148), 0)) else (some (t147, 0, t149))) = some (r1, r2, r3) := H
      have A9 := Aside0.mk A90
      clear A90
      by_cases c10 : t149 = 0
      ·rw [if_pos c10] at H
       have c10b0 : (t149 == 0) = true := beq_iff_eq.mpr c10
       have c10b1 : (t149 != 0) = false := bne_eq_false_iff_eq.mpr c10
       clear c10
       simp only [Option.some.injEq, Prod.mk.injEq] at H
       obtain ⟨rfl, rfl, rfl⟩ := H
       go_wp2_with (first | (go_at_call 42; (with_reducible refine (vint_text.calls kj3 (a0.extract (a1 : Int).toNat a0.size) t147 t148 t149 _ A9.out).mono ?_); rintro e w11 ⟨rfl, hb⟩; have n0_ := Aside0.mk (below_step (by repeat (first | (with_reducible first | exact HB.out | apply below_alloc | apply pw_below_drewN | apply below_drew1) | exact HB.out)) hb); clear HB; have HB := n0_; clear n0_; (try clear hb); (try clear hb2); (try clear hk); (try clear hi)))
       go_ret3
       exact ⟨by first | rfl | (simp [errW_none, errW_some] <;> rfl) | (simp [*, errW_none, errW_some] <;> rfl), by repeat (first | (with_reducible first | exact HB.out | apply below_alloc | apply pw_below_drewN | apply below_drew1) | exact HB.out)⟩
      ·rw [if_neg c10] at H
       have c10b0 : (t149 == 0) = false := beq_eq_false_iff_ne.mpr c10
       have c10b1 : (t149 != 0) = true := bne_iff_ne.mpr c10
       simp only [Option.some.injEq, Prod.mk.injEq] at H
       obtain ⟨rfl, rfl, rfl⟩ := H
       go_wp2_with (first | (go_at_call 42; (with_reducible refine (vint_text.calls kj3 (a0.extract (a1 : Int).toNat a0.size) t147 t148 t149 _ A9.out).mono ?_); rintro e w12 ⟨rfl, hb⟩; have n0_ := Aside0.mk (below_step (by repeat (first | (with_reducible first | exact HB.out | apply below_alloc | apply pw_below_drewN | apply below_drew1) | exact HB.out)) hb); clear HB; have HB := n0_; clear n0_; (try clear hb); (try clear hb2); (try clear hk); (try clear hi)))
       go_ret3
       exact ⟨by first | rfl | (simp [errW_none, errW_some] <;> rfl) | (simp [*, errW_none, errW_some] <;> rfl), by repeat (first | (with_reducible first | exact HB.out | apply below_alloc | apply pw_below_drewN | apply below_drew1) | exact HB.out)⟩
     ·rw [if_neg c8] at H
      exact absurd H (by simp)
    ·rw [if_neg c7] at H
     exact absurd H (by simp)

/-! ### vint_GetText: function 30 -/
def vint_GetText.f (k : Nat) (a0 : ByteArray) (a1 : Int) : Option (ByteArray × Int × Int) := (vint_placed_string.f k a0 a1).bind fun bt150 => (some (bt150.1, bt150.2.1, bt150.2.2))
theorem vint_GetText.mono : ∀ a0 a1 k, LeO (vint_GetText.f k a0 a1) (vint_GetText.f (k + 1) a0 a1) := by
 intro a0 a1 k
 unfold vint_GetText.f
 repeat' first
   | (with_reducible exact vint_placed_string.mono _ _ _)
   | (with_reducible exact LeO.refl _)
   | (with_reducible exact LeO.none _)
   | (with_reducible refine LeO.ite ?_ ?_)
   | (with_reducible refine LeO.bind ?_ (fun _ => ?_))
   | exact vint_placed_string.mono _ _ _
   | exact LeO.none _
   | refine LeO.ite ?_ ?_
   | refine LeO.bind ?_ (fun _ => ?_)
set_option maxHeartbeats 8000000 in
set_option maxRecDepth 100000 in
theorem vint_GetText.calls (k : Nat) (a0 : ByteArray) (a1 : Int) (r1 : ByteArray) (r2 : Int) (r3 : Int) (w : World) (h : vint_GetText.f k a0 a1 = some (r1, r2, r3)) :
  Calls Try.prog 30 #[.string a0, .int .i64 a1] w fun e w' => e = .returned (.tuple #[.string r1, .int .i64 r2, .int .i64 r3]) ∧ Below w.heap.size w w' := by
 have HB := Aside0.mk (Below.refl w.heap.size w)
 have H : ((vint_placed_string.f k a0 a1).bind fun bt150 => (some (bt150.1, bt150.2.1, bt150.2.2))) = some (r1, r2, r3) := h
 clear h
 replace H := Option.bind_eq_some_iff.mp H
 obtain ⟨⟨t150, t151, t152⟩, A30, H⟩ := H
 replace H : (some (t150, t151, t152)) = some (r1, r2, r3) := H
 have A3 := Aside0.mk A30
 clear A30
 simp only [Option.some.injEq, Prod.mk.injEq] at H
 obtain ⟨rfl, rfl, rfl⟩ := H
 go_enter Try.func30, Try.ntmps30
 go_wp2_with (first | (go_at_call 41; (with_reducible refine (vint_placed_string.calls k a0 a1  t150 t151 t152 _ A3.out).mono ?_); rintro e w4 ⟨rfl, hb⟩; have n0_ := Aside0.mk (below_step (by repeat (first | (with_reducible first | exact HB.out | apply below_alloc | apply pw_below_drewN | apply below_drew1) | exact HB.out)) hb); clear HB; have HB := n0_; clear n0_; (try clear hb); (try clear hb2); (try clear hk); (try clear hi)))
 go_ret3
 exact ⟨by first | rfl | (simp [errW_none, errW_some] <;> rfl) | (simp [*, errW_none, errW_some] <;> rfl), by repeat (first | (with_reducible first | exact HB.out | apply below_alloc | apply pw_below_drewN | apply below_drew1) | exact HB.out)⟩

-- NOT PRINTED: function 14 (trace_Get)

/-! ### crc_Get: function 50 -/
def crc_Get.f (a0 : ByteArray) : Option (ByteArray × Int) := if (a0.size : Int) < 4 then (some ((⟨#[]⟩ : ByteArray), 3)) else (if 0 ≤ (wrap64 ((a0.size : Int) - 4)) then (if (wrap64 ((a0.size : Int) - 4)) ≤ (a0.size : Int) then ((crc_Put.f (a0.extract 0 ((wrap64 ((a0.size : Int) - 4)) : Int).toNat)).bind fun t155 => (if t155.toList = a0.toList then (some (a0.extract 0 ((wrap64 ((a0.size : Int) - 4)) : Int).toNat, 0)) else (some ((⟨#[]⟩ : ByteArray), 5)))) else (none)) else (none))
set_option maxHeartbeats 8000000 in
set_option maxRecDepth 100000 in
theorem crc_Get.calls (a0 : ByteArray) (r1 : ByteArray) (r2 : Int) (w : World) (h : crc_Get.f a0 = some (r1, r2)) :
  Calls Try.prog 50 #[.string a0] w fun e w' => e = .returned (.tuple #[.string r1, .int .i64 r2]) ∧ Below w.heap.size w w' := by
 have HB := Aside0.mk (Below.refl w.heap.size w)
 have H : (if (a0.size : Int) < 4 then (some ((⟨#[]⟩ : ByteArray), 3)) else (if 0 ≤ (wrap64 ((a0.size : Int) - 4)) then (if (wrap64 ((a0.size : Int) - 4)) ≤ (a0.size : Int) then ((crc_Put.f (a0.extract 0 ((wrap64 ((a0.size : Int) - 4)) : Int).toNat)).bind fun t155 => (if t155.toList = a0.toList then (some (a0.extract 0 ((wrap64 ((a0.size : Int) - 4)) : Int).toNat, 0)) else (some ((⟨#[]⟩ : ByteArray), 5)))) else (none)) else (none))) = some (r1, r2) := h
 clear h
 by_cases c2 : (a0.size : Int) < 4
 ·rw [if_pos c2] at H
  have c2b0 : decide ((a0.size : Int) < 4) = true := decide_eq_true c2
  have c2b1 : decide (a0.size < 4) = true := decide_eq_true (by omega)
  clear c2
  simp only [Option.some.injEq, Prod.mk.injEq] at H
  obtain ⟨rfl, rfl⟩ := H
  go_enter Try.func50, Try.ntmps50
  go_wp2
  go_ret2
  exact ⟨by first | rfl | (simp [errW_none, errW_some] <;> rfl) | (simp [*, errW_none, errW_some] <;> rfl), by repeat (first | (with_reducible first | exact HB.out | apply below_alloc | apply pw_below_drewN | apply below_drew1) | exact HB.out)⟩
 ·rw [if_neg c2] at H
  have c2b0 : decide ((a0.size : Int) < 4) = false := decide_eq_false c2
  have c2b1 : decide (a0.size < 4) = false := decide_eq_false (by omega)
  clear c2
  obtain ⟨ji3, hji3⟩ : ∃ j_ : Int, (wrap64 ((a0.size : Int) - 4)) = j_ := ⟨_, rfl⟩
  replace H : (if 0 ≤ (ji3) then (if (ji3) ≤ (a0.size : Int) then ((crc_Put.f (a0.extract 0 ((ji3) : Int).toNat)).bind fun t155 => (if t155.toList = a0.toList then (some (a0.extract 0 ((ji3) : Int).toNat, 0)) else (some ((⟨#[]⟩ : ByteArray), 5)))) else (none)) else (none)) = some (r1, r2) := by first | (rw [hji3] at H; exact H) | (simp only [hji3] at H ⊢; exact H)
  have hji3w : (IntKind.i64.wrap ((a0.size : Int) - 4)) = ji3 := (i64_w _).trans hji3
  by_cases c4 : 0 ≤ (ji3)
  ·rw [if_pos c4] at H
   have c4b0 := eq_true c4
   have c4b1 : decide (0 ≤ (ji3)) = true := decide_eq_true c4
   clear c4
   by_cases c5 : (ji3) ≤ (a0.size : Int)
   ·rw [if_pos c5] at H
    have c5b0 := eq_true c5
    have c5b1 : decide ((ji3) ≤ (a0.size : Int)) = true := decide_eq_true c5
    clear c5
    replace H := Option.bind_eq_some_iff.mp H
    obtain ⟨t155, A60, H⟩ := H
    replace H : (if t155.toList = a0.toList then (some (a0.extract 0 ((ji3) : Int).toNat, 0)) else (some ((⟨#[]⟩ : ByteArray), 5))) = some (r1, r2) := H
    have A6 := Aside0.mk A60
    clear A60
    by_cases c7 : t155.toList = a0.toList
    ·rw [if_pos c7] at H
     have c7b0 : (t155.toList == a0.toList) = true := beq_iff_eq.mpr c7
     have c7b1 : (t155.toList != a0.toList) = false := bne_eq_false_iff_eq.mpr c7
     clear c7
     simp only [Option.some.injEq, Prod.mk.injEq] at H
     obtain ⟨rfl, rfl⟩ := H
     go_enter Try.func50, Try.ntmps50
     go_wp2_with (first | ((with_reducible refine gate_callee (f := 43) rfl ?_); refine goesL_ (some 14) rfl rfl Try.func43 (by kernel_rfl) rfl #[.string (a0.extract 0 ((ji3) : Int).toNat)] rfl (by (try simp only [List.map_toArray, List.map_cons, List.map_nil]); first | done | (simp only [hji3]; rfl) | rfl | (simp only [List.length_drop, List.length_take]; rfl)) ?_; (with_reducible refine (crc_Put.calls (a0.extract 0 ((ji3) : Int).toNat) t155 _ A6.out).mono ?_); rintro e w8 ⟨rfl, hb⟩; refine ⟨_, rfl, ?_⟩; have n0_ := Aside0.mk (below_step (by repeat (first | (with_reducible first | exact HB.out | apply below_alloc | apply pw_below_drewN | apply below_drew1) | exact HB.out)) hb); clear HB; have HB := n0_; clear n0_; (try clear hb); (try clear hb2); (try clear hk); (try clear hi)))
     go_ret2
     exact ⟨by first | rfl | (simp [errW_none, errW_some] <;> rfl) | (simp only [← hji3]; first | rfl | (simp [errW_none, errW_some] <;> rfl)) | (simp [*, errW_none, errW_some] <;> rfl), by repeat (first | (with_reducible first | exact HB.out | apply below_alloc | apply pw_below_drewN | apply below_drew1) | exact HB.out)⟩
    ·rw [if_neg c7] at H
     have c7b0 : (t155.toList == a0.toList) = false := beq_eq_false_iff_ne.mpr c7
     have c7b1 : (t155.toList != a0.toList) = true := bne_iff_ne.mpr c7
     simp only [Option.some.injEq, Prod.mk.injEq] at H
     obtain ⟨rfl, rfl⟩ := H
     go_enter Try.func50, Try.ntmps50
     go_wp2_with (first | ((with_reducible refine gate_callee (f := 43) rfl ?_); refine goesL_ (some 14) rfl rfl Try.func43 (by kernel_rfl) rfl #[.string (a0.extract 0 ((ji3) : Int).toNat)] rfl (by (try simp only [List.map_toArray, List.map_cons, List.map_nil]); first | done | (simp only [hji3]; rfl) | rfl | (simp only [List.length_drop, List.length_take]; rfl)) ?_; (with_reducible refine (crc_Put.calls (a0.extract 0 ((ji3) : Int).toNat) t155 _ A6.out).mono ?_); rintro e w9 ⟨rfl, hb⟩; refine ⟨_, rfl, ?_⟩; have n0_ := Aside0.mk (below_step (by repeat (first | (with_reducible first | exact HB.out | apply below_alloc | apply pw_below_drewN | apply below_drew1) | exact HB.out)) hb); clear HB; have HB := n0_; clear n0_; (try clear hb); (try clear hb2); (try clear hk); (try clear hi)))
     go_ret2
     exact ⟨by first | rfl | (simp [errW_none, errW_some] <;> rfl) | (simp only [← hji3]; first | rfl | (simp [errW_none, errW_some] <;> rfl)) | (simp [*, errW_none, errW_some] <;> rfl), by repeat (first | (with_reducible first | exact HB.out | apply below_alloc | apply pw_below_drewN | apply below_drew1) | exact HB.out)⟩
   ·rw [if_neg c5] at H
    exact absurd H (by simp)
  ·rw [if_neg c4] at H
   exact absurd H (by simp)

end Go.Proofs.Ytmdcpmfanpopgaa.M
