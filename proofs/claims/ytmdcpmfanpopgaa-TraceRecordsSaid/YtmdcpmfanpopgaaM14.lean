-- Written by a program of this session (wip/tools/mine.sh), out of the translation and hand-given contracts.
import Derived.Test.YtmdcpmfanpopgaaM0
namespace Go.Proofs.Ytmdcpmfanpopgaa.M
open Go.RowKit Go.Proofs.YtmdcpmfanpopgaaW.PrintWords Go.Proofs.YtmdcpmfanpopgaaW.PrintLast Go.Proofs.YtmdcpmfanpopgaaW.PrintMore
attribute [local go_sem] max2_int min2_int max_two min_two max_three min_three max_four min_four   -- for this text's walks alone
set_option linter.unusedVariables false
set_option linter.unusedSimpArgs false

/-! ### boomeranglaw4_Host: function 23 -/
mutual
def boomeranglaw4_Host.l0 : Nat → List Int → List (S25) → Int → Option ((List (S25)))
 | 0, _, _, _ => none
 | k + 1, x0, x3, x4 => if (wrap64 (x4 + 1)) < (x0.length : Int) then (boomeranglaw4_Host.j1 k x0 x3 x4 (decide ((x3.length : Int) < 20))) else (boomeranglaw4_Host.j1 k x0 x3 x4 false)
def boomeranglaw4_Host.j1 : Nat → List Int → List (S25) → Int → Bool → Option ((List (S25)))
 | 0, _, _, _, _ => none
 | k + 1, x0, x3, x4, x16 => if x16 = true then (if 0 ≤ (wrap64 (x4 + 1)) then (if (wrap64 (x4 + 1)) < (x0.length : Int) then (if 0 ≤ x4 then (if x4 < (x0.length : Int) then (if (rd x0 x4) ≥ 128 then (boomeranglaw4_Host.j2 k x0 x3 x4 (wrap64 (rd x0 (wrap64 (x4 + 1)))) 5 (wrap64 (rd x0 (wrap64 (x4 + 1)))) (⟨#[]⟩ : ByteArray)) else (boomeranglaw4_Host.j2 k x0 x3 x4 (wrap64 (rd x0 (wrap64 (x4 + 1)))) (wrap64 (1 + (Int.tmod (wrap64 (rd x0 x4)) 5))) (wrap64 (rd x0 (wrap64 (x4 + 1)))) (⟨#[]⟩ : ByteArray))) else (none)) else (none)) else (none)) else (none)) else (some x3)
def boomeranglaw4_Host.j2 : Nat → List Int → List (S25) → Int → Int → Int → Int → ByteArray → Option ((List (S25)))
 | 0, _, _, _, _, _, _, _ => none
 | k + 1, x0, x3, x4, x5, x172000, x172001, x172002 => if x172000 = 3 then (boomeranglaw4_Host.j3 k x0 x3 x4 x5 true x172000 x172001 x172002) else (boomeranglaw4_Host.j3 k x0 x3 x4 x5 (x172000 == 4) x172000 x172001 x172002)
def boomeranglaw4_Host.j3 : Nat → List Int → List (S25) → Int → Int → Bool → Int → Int → ByteArray → Option ((List (S25)))
 | 0, _, _, _, _, _, _, _, _ => none
 | k + 1, x0, x3, x4, x5, x47, x172000, x172001, x172002 => if x47 = true then ((some (([(⟨#[]⟩ : ByteArray), (⟨#[111, 107]⟩ : ByteArray), (⟨#[101]⟩ : ByteArray), (⟨#[97, 32, 98]⟩ : ByteArray), (⟨#[91, 49, 44, 50, 93]⟩ : ByteArray)] : List ByteArray) : List ByteArray)).bind fun y173 => (if 0 ≤ (Int.tmod x5 5) then (if (Int.tmod x5 5) < (y173.length : Int) then (if x172000 = 2 then (if x3.length < 4398046511104 then (boomeranglaw4_Host.l0 k x0 (x3 ++ [(⟨x172000, wrap64 (x5 - 100), rdOf ByteArray.empty y173 (Int.tmod x5 5)⟩ : S25)]) (wrap64 (x4 + 2))) else (none)) else (if x3.length < 4398046511104 then (boomeranglaw4_Host.l0 k x0 (x3 ++ [(⟨x172000, 0, rdOf ByteArray.empty y173 (Int.tmod x5 5)⟩ : S25)]) (wrap64 (x4 + 2))) else (none))) else (none)) else (none))) else (if x172000 = 2 then (if x3.length < 4398046511104 then (boomeranglaw4_Host.l0 k x0 (x3 ++ [(⟨x172000, wrap64 (x5 - 100), x172002⟩ : S25)]) (wrap64 (x4 + 2))) else (none)) else (if x3.length < 4398046511104 then (boomeranglaw4_Host.l0 k x0 (x3 ++ [(⟨x172000, x172001, x172002⟩ : S25)]) (wrap64 (x4 + 2))) else (none)))
end
def boomeranglaw4_Host.f (k : Nat) (l0 : List Int) : Option ((List (S25))) := boomeranglaw4_Host.l0 k l0 ([] : List (S25)) 0
theorem boomeranglaw4_Host.mono_l : ∀ k, (∀ y0 y1 y2, LeO (boomeranglaw4_Host.l0 k y0 y1 y2) (boomeranglaw4_Host.l0 (k + 1) y0 y1 y2)) ∧ (∀ y0 y1 y2 y3, LeO (boomeranglaw4_Host.j1 k y0 y1 y2 y3) (boomeranglaw4_Host.j1 (k + 1) y0 y1 y2 y3)) ∧ (∀ y0 y1 y2 y3 y4 y5 y6, LeO (boomeranglaw4_Host.j2 k y0 y1 y2 y3 y4 y5 y6) (boomeranglaw4_Host.j2 (k + 1) y0 y1 y2 y3 y4 y5 y6)) ∧ (∀ y0 y1 y2 y3 y4 y5 y6 y7, LeO (boomeranglaw4_Host.j3 k y0 y1 y2 y3 y4 y5 y6 y7) (boomeranglaw4_Host.j3 (k + 1) y0 y1 y2 y3 y4 y5 y6 y7))
 | 0 => ⟨fun _ _ _ r h => by simp [boomeranglaw4_Host.l0] at h, fun _ _ _ _ r h => by simp [boomeranglaw4_Host.j1] at h, fun _ _ _ _ _ _ _ r h => by simp [boomeranglaw4_Host.j2] at h, fun _ _ _ _ _ _ _ _ r h => by simp [boomeranglaw4_Host.j3] at h⟩
 | k + 1 => by
  obtain ⟨ih0, ih1, ih2, ih3⟩ := boomeranglaw4_Host.mono_l k
  refine ⟨?_, ?_, ?_, ?_⟩
  ·intro y0 y1 y2
   unfold boomeranglaw4_Host.l0
   repeat' first
   | (with_reducible exact ih0 _ _ _)
   | (with_reducible exact ih1 _ _ _ _)
   | (with_reducible exact ih2 _ _ _ _ _ _ _)
   | (with_reducible exact ih3 _ _ _ _ _ _ _ _)
   | (with_reducible exact LeO.refl _)
   | (with_reducible exact LeO.none _)
   | (with_reducible refine LeO.ite ?_ ?_)
   | (with_reducible refine LeO.bind ?_ (fun _ => ?_))
   | exact ih0 _ _ _
   | exact ih1 _ _ _ _
   | exact ih2 _ _ _ _ _ _ _
   | exact ih3 _ _ _ _ _ _ _ _
   | exact LeO.none _
   | refine LeO.ite ?_ ?_
   | refine LeO.bind ?_ (fun _ => ?_)
  ·intro y0 y1 y2 y3
   unfold boomeranglaw4_Host.j1
   repeat' first
   | (with_reducible exact ih0 _ _ _)
   | (with_reducible exact ih1 _ _ _ _)
   | (with_reducible exact ih2 _ _ _ _ _ _ _)
   | (with_reducible exact ih3 _ _ _ _ _ _ _ _)
   | (with_reducible exact LeO.refl _)
   | (with_reducible exact LeO.none _)
   | (with_reducible refine LeO.ite ?_ ?_)
   | (with_reducible refine LeO.bind ?_ (fun _ => ?_))
   | exact ih0 _ _ _
   | exact ih1 _ _ _ _
   | exact ih2 _ _ _ _ _ _ _
   | exact ih3 _ _ _ _ _ _ _ _
   | exact LeO.none _
   | refine LeO.ite ?_ ?_
   | refine LeO.bind ?_ (fun _ => ?_)
  ·intro y0 y1 y2 y3 y4 y5 y6
   unfold boomeranglaw4_Host.j2
   repeat' first
   | (with_reducible exact ih0 _ _ _)
   | (with_reducible exact ih1 _ _ _ _)
   | (with_reducible exact ih2 _ _ _ _ _ _ _)
   | (with_reducible exact ih3 _ _ _ _ _ _ _ _)
   | (with_reducible exact LeO.refl _)
   | (with_reducible exact LeO.none _)
   | (with_reducible refine LeO.ite ?_ ?_)
   | (with_reducible refine LeO.bind ?_ (fun _ => ?_))
   | exact ih0 _ _ _
   | exact ih1 _ _ _ _
   | exact ih2 _ _ _ _ _ _ _
   | exact ih3 _ _ _ _ _ _ _ _
   | exact LeO.none _
   | refine LeO.ite ?_ ?_
   | refine LeO.bind ?_ (fun _ => ?_)
  ·intro y0 y1 y2 y3 y4 y5 y6 y7
   unfold boomeranglaw4_Host.j3
   repeat' first
   | (with_reducible exact ih0 _ _ _)
   | (with_reducible exact ih1 _ _ _ _)
   | (with_reducible exact ih2 _ _ _ _ _ _ _)
   | (with_reducible exact ih3 _ _ _ _ _ _ _ _)
   | (with_reducible exact LeO.refl _)
   | (with_reducible exact LeO.none _)
   | (with_reducible refine LeO.ite ?_ ?_)
   | (with_reducible refine LeO.bind ?_ (fun _ => ?_))
   | exact ih0 _ _ _
   | exact ih1 _ _ _ _
   | exact ih2 _ _ _ _ _ _ _
   | exact ih3 _ _ _ _ _ _ _ _
   | exact LeO.none _
   | refine LeO.ite ?_ ?_
   | refine LeO.bind ?_ (fun _ => ?_)
theorem boomeranglaw4_Host.mono : ∀ a0 k, LeO (boomeranglaw4_Host.f k a0) (boomeranglaw4_Host.f (k + 1) a0) := by
 intro a0 k
 obtain ⟨ih0, ih1, ih2, ih3⟩ := boomeranglaw4_Host.mono_l k
 unfold boomeranglaw4_Host.f
 repeat' first
   | (with_reducible exact ih0 _ _ _)
   | (with_reducible exact ih1 _ _ _ _)
   | (with_reducible exact ih2 _ _ _ _ _ _ _)
   | (with_reducible exact ih3 _ _ _ _ _ _ _ _)
   | (with_reducible exact LeO.refl _)
   | (with_reducible exact LeO.none _)
   | (with_reducible refine LeO.ite ?_ ?_)
   | (with_reducible refine LeO.bind ?_ (fun _ => ?_))
   | exact ih0 _ _ _
   | exact ih1 _ _ _ _
   | exact ih2 _ _ _ _ _ _ _
   | exact ih3 _ _ _ _ _ _ _ _
   | exact LeO.none _
   | refine LeO.ite ?_ ?_
   | refine LeO.bind ?_ (fun _ => ?_)
set_option maxHeartbeats 8000000 in
set_option maxRecDepth 100000 in
theorem boomeranglaw4_Host.calls (k : Nat) (A0 : Option Addr) (c0 : Nat) (l0 : List Int) (r : List (S25)) (w : World) (hr0 : Kd.C (Kd.int .u8) w A0 l0.length l0) (hc0 : l0.length ≤ c0) (h : boomeranglaw4_Host.f k l0 = some r) :
  Calls Try.prog 23 #[.slice A0 l0.length c0] w fun e w' => ∃ v0_ : Value, e = .returned (v0_) ∧ Kd.R k25 25 w' w.heap.size (fun _ => True) v0_ r ∧ Below w.heap.size w w' := by
 have hu25 := Try.underlying25
 have HR0 := Aside0.mk hr0
 have HC0 := Aside0.mk hc0
 clear hr0 hc0
 have HB := Aside0.mk (Below.refl w.heap.size w)
 have H : (boomeranglaw4_Host.l0 k l0 ([] : List (S25)) 0) = some r := h
 clear h
 have H' := Aside0.mk H
 clear H
 go_enter Try.func23, Try.ntmps23
 go_wp2
 go_loopg [3, 4] k (fun kq v3 v4 w' => ∃ (x3_1 : List (S25)) (x4_1 : Int), v4 = .int .i64 x4_1 ∧ Aside0 (boomeranglaw4_Host.l0 kq l0 x3_1 x4_1 = some r) ∧ Aside0 (kq ≤ k) ∧ Aside0 (Kd.R k25 25 w' w.heap.size (fun _ => True) v3 x3_1) ∧ Aside0 (Below w.heap.size w w'))
 case atStart => exact ⟨(([] : List (S25))), (0), (by first | rfl | (simp; done) | (simp [*]; done)), H', ⟨Nat.le_refl _⟩, ⟨by first | exact Kd.R_nil _ _ _ _ _ | exact Kd.N_nil _ _ _ _ _ | exact Kd.V_nil _ _ _ _ _ | exact Kd.Q_nil _ _ _ _ _ | exact Kd.S_nil _ _ _ _ _⟩, ⟨by repeat (first | (with_reducible first | exact HB.out | apply below_alloc | apply pw_below_drewN | apply below_drew1) | exact HB.out)⟩⟩
 case round =>
  clear H'
  obtain ⟨x3_1, x4_1, rfl, HA, HK1, HO_3, HB⟩ := hrel
  cases gk with
  | zero => exact absurd HA.out (by simp [boomeranglaw4_Host.l0])
  | succ k1 =>
   have H := HA.out
   clear HA
   simp only [boomeranglaw4_Host.l0] at H
   have HC2 := Aside0.mk H
   clear H
   go_upto_region 3 with (fail)
   go_cut [16] (fun v16 wc => ∃ (kq : Nat) (x16_1 : Bool), v16 = .bool x16_1 ∧ Aside0 (boomeranglaw4_Host.j1 kq l0 x3_1 x4_1 x16_1 = some r) ∧ Aside0 (kq ≤ k1) ∧ Aside0 (Kd.R k25 25 wc w.heap.size (fun _ => True) u3 x3_1) ∧ Aside0 (Below w.heap.size w wc))
   case first =>
    have H := HC2.out
    clear HC2
    by_cases c3 : (wrap64 (x4_1 + 1)) < (l0.length : Int)
    ·rw [if_pos c3] at H
     have c3b0 : decide ((wrap64 (x4_1 + 1)) < (l0.length : Int)) = true := decide_eq_true c3
     clear c3
     (first | rw [c3b0] | (simp only [i64_w, i32_w]; rw [c3b0]) | skip)
     have H' := Aside0.mk H
     clear H
     obtain ⟨Ao4, co4, eo4⟩ := Kd.R_slice HO_3.out
     subst eo4
     go_wp2
     go_meet
     case rel => exact ⟨_, (decide ((x3_1.length : Int) < 20)), (by first | rfl | (simp; done) | (simp [*]; done)), H', ⟨by have := HK1.out; first | omega | exact Nat.le_refl _⟩, ⟨by (with_reducible repeat (first | apply Kd.R_alloc | apply Kd.R_drewN | apply Kd.R_drew)); exact HO_3.out⟩, ⟨by repeat (first | (with_reducible first | exact HB.out | apply below_alloc | apply pw_below_drewN | apply below_drew1) | exact HB.out)⟩⟩
    ·rw [if_neg c3] at H
     have c3b0 : decide ((wrap64 (x4_1 + 1)) < (l0.length : Int)) = false := decide_eq_false c3
     clear c3
     (first | rw [c3b0] | (simp only [i64_w, i32_w]; rw [c3b0]) | skip)
     have H' := Aside0.mk H
     clear H
     go_wp2
     go_meet
     case rel => exact ⟨_, (false), (by first | rfl | (simp; done) | (simp [*]; done)), H', ⟨by have := HK1.out; first | omega | exact Nat.le_refl _⟩, ⟨by (with_reducible repeat (first | apply Kd.R_alloc | apply Kd.R_drewN | apply Kd.R_drew)); exact HO_3.out⟩, ⟨by repeat (first | (with_reducible first | exact HB.out | apply below_alloc | apply pw_below_drewN | apply below_drew1) | exact HB.out)⟩⟩
   case rest =>
    clear HC2
    try clear c2
    try clear p2
    try clear c3
    try clear c3b0
    obtain ⟨kq, x16_1, rfl, HA, HJ1, HO_3, HB⟩ := hcut
    cases kq with
    | zero => exact absurd HA.out (by simp [boomeranglaw4_Host.j1])
    | succ kj1 =>
     have H := HA.out
     clear HA
     simp only [boomeranglaw4_Host.j1] at H
     by_cases c5 : x16_1 = true
     ·subst c5
      have H1 : (if 0 ≤ (wrap64 (x4_1 + 1)) then (if (wrap64 (x4_1 + 1)) < (l0.length : Int) then (if 0 ≤ x4_1 then (if x4_1 < (l0.length : Int) then (if (rd l0 x4_1) ≥ 128 then (boomeranglaw4_Host.j2 kj1 l0 x3_1 x4_1 (wrap64 (rd l0 (wrap64 (x4_1 + 1)))) 5 (wrap64 (rd l0 (wrap64 (x4_1 + 1)))) (⟨#[]⟩ : ByteArray)) else (boomeranglaw4_Host.j2 kj1 l0 x3_1 x4_1 (wrap64 (rd l0 (wrap64 (x4_1 + 1)))) (wrap64 (1 + (Int.tmod (wrap64 (rd l0 x4_1)) 5))) (wrap64 (rd l0 (wrap64 (x4_1 + 1)))) (⟨#[]⟩ : ByteArray))) else (none)) else (none)) else (none)) else (none)) = some r := by rw [if_pos rfl] at H; exact H
      clear H
      have H := H1
      clear H1
      obtain ⟨ji6, hji6⟩ : ∃ j_ : Int, (wrap64 (x4_1 + 1)) = j_ := ⟨_, rfl⟩
      replace H : (if 0 ≤ (ji6) then (if (ji6) < (l0.length : Int) then (if 0 ≤ x4_1 then (if x4_1 < (l0.length : Int) then (if (rd l0 x4_1) ≥ 128 then (boomeranglaw4_Host.j2 kj1 l0 x3_1 x4_1 (wrap64 (rd l0 (ji6))) 5 (wrap64 (rd l0 (ji6))) (⟨#[]⟩ : ByteArray)) else (boomeranglaw4_Host.j2 kj1 l0 x3_1 x4_1 (wrap64 (rd l0 (ji6))) (wrap64 (1 + (Int.tmod (wrap64 (rd l0 x4_1)) 5))) (wrap64 (rd l0 (ji6))) (⟨#[]⟩ : ByteArray))) else (none)) else (none)) else (none)) else (none)) = some r := by first | (rw [hji6] at H; exact H) | (simp only [hji6] at H ⊢; exact H)
      have hji6w : (IntKind.i64.wrap (x4_1 + 1)) = ji6 := (i64_w _).trans hji6
      by_cases c7 : 0 ≤ (ji6)
      ·rw [if_pos c7] at H
       have c7b0 : decide (0 ≤ (ji6)) = true := decide_eq_true c7
       clear c7
       by_cases c8 : (ji6) < (l0.length : Int)
       ·rw [if_pos c8] at H
        have c8b0 : decide ((ji6) < (l0.length : Int)) = true := decide_eq_true c8
        clear c8
        by_cases c9 : 0 ≤ x4_1
        ·rw [if_pos c9] at H
         have c9b0 : decide (0 ≤ x4_1) = true := decide_eq_true c9
         clear c9
         by_cases c10 : x4_1 < (l0.length : Int)
         ·rw [if_pos c10] at H
          have c10b0 : decide (x4_1 < (l0.length : Int)) = true := decide_eq_true c10
          clear c10
          have HC11 := Aside0.mk H
          clear H
          have p169 : 0 ≤ ((ji6) : Int) := of_decide_eq_true (by first | (with_reducible assumption) | assumption)
          have q169 : (ji6) < (l0.length : Int) := of_decide_eq_true (by first | (with_reducible assumption) | assumption)
          obtain ⟨ad169, e169, hx169_0⟩ := Kd.at_int HR0.out (ji6) p169 q169
          cases e169
          replace hx169_0 := (HB.out.cell (World.block_lt_of_cell? w _ hx169_0)).trans hx169_0
          replace p169 := eq_true p169
          replace q169 := eq_true q169
          have p170 : 0 ≤ (x4_1 : Int) := of_decide_eq_true (by first | (with_reducible assumption) | assumption)
          have q170 : x4_1 < (l0.length : Int) := of_decide_eq_true (by first | (with_reducible assumption) | assumption)
          obtain ⟨ad170, e170, hx170_0⟩ := Kd.at_int HR0.out x4_1 p170 q170
          obtain rfl : ad169 = ad170 := (by injection e170)
          replace hx170_0 := (HB.out.cell (World.block_lt_of_cell? w _ hx170_0)).trans hx170_0
          replace p170 := eq_true p170
          replace q170 := eq_true q170
          go_upto_if 38 with (first | ((with_reducible refine gate_dst (N := 6) rfl ?_); (try (refine gate_guard (by rfl) ?_; dsimp only)); refine box_event ?hg (N := 6) ?hd (cs := #[.int .i64 0, .int .i64 0, .string (⟨#[]⟩ : ByteArray)]) (t := 25) ?hr ?_; (case hd => rfl); (case hg => rfl); (case hr => first | (go_simp; done) | (go_simp; rfl)); intro gb171 hg w12 hbox hb; have n0_ := Aside0.mk (Kd.R_below (Kd.R_elderB (by (with_reducible repeat (first | apply Kd.R_alloc | apply Kd.R_drewN | apply Kd.R_drew)); exact HO_3.out) gb171 (Nat.le_of_eq hg.symm)) hb); have n1_ := Aside0.mk (below_step (by repeat (first | (with_reducible first | exact HB.out | apply below_alloc | apply pw_below_drewN | apply below_drew1) | exact HB.out)) hb); have n2_ := Aside0.mk (hbox); have n3_ := Aside0.mk ((by rw [hg]; exact (below_size (by repeat (first | (with_reducible first | exact HB.out | apply below_alloc | apply pw_below_drewN | apply below_drew1) | exact HB.out))) : w.heap.size ≤ gb171)); have n4_ := Aside0.mk ((by rw [hg]; exact (below_size (by repeat (first | (with_reducible first | exact HB.out | apply below_alloc | apply pw_below_drewN | apply below_drew1) | exact HB.out))) : w.heap.size ≤ gb171)); clear HO_3; clear HB; have HO_3 := n0_; have HB := n1_; have BK171 := n2_; have GW171 := n3_; have GE171 := n4_; clear n0_ n1_ n2_ n3_ n4_; clear hb hbox hg; have hcz13_0 : w12.cell? ⟨gb171, 0, none⟩ = some (.int .i64 0) := (blk_cell BK171.out 0).trans rfl; have hcz13_1 : w12.cell? ⟨gb171, 1, none⟩ = some (.int .i64 0) := (blk_cell BK171.out 1).trans rfl; have hcz13_2 : w12.cell? ⟨gb171, 2, none⟩ = some (.string (⟨#[]⟩ : ByteArray)) := (blk_cell BK171.out 2).trans rfl; have hfz13_0 := blk_frozen BK171.out 0; have hfz13_1 := blk_frozen BK171.out 1; have hfz13_2 := blk_frozen BK171.out 2; have p172 : 0 ≤ (x4_1 : Int) := of_decide_eq_true (by first | (with_reducible assumption) | assumption); have q172 : x4_1 < (l0.length : Int) := of_decide_eq_true (by first | (with_reducible assumption) | assumption); obtain ⟨ad172, e172, hx172_0⟩ := Kd.at_int HR0.out x4_1 p172 q172; obtain rfl : ad169 = ad172 := (by injection e172); have hn172_0 : ad169.block ≠ gb171 := Nat.ne_of_lt (Nat.lt_of_lt_of_le (by have := World.block_lt_of_cell? _ _ hx172_0; first | rwa [add_block] at this | exact this) GW171.out); have hn172_1 : ad169.block ≠ gb171 := Nat.ne_of_lt (Nat.lt_of_lt_of_le (by have := World.block_lt_of_cell? _ _ hx172_0; first | rwa [add_block] at this | exact this) GW171.out); have hn172_2 : ad169.block ≠ gb171 := Nat.ne_of_lt (Nat.lt_of_lt_of_le (by have := World.block_lt_of_cell? _ _ hx172_0; first | rwa [add_block] at this | exact this) GW171.out); replace hx172_0 := (HB.out.cell (World.block_lt_of_cell? w _ hx172_0)).trans hx172_0; replace hx172_0 := (cell_far (p := ⟨gb171, 0, none⟩) (by first | (rw [add_block]; exact hn172_0) | (show (Addr.add _ _).block ≠ _; rw [add_block]; exact hn172_0) | exact hn172_0) (.int .i64 (wrap64 (1 + (Int.tmod (wrap64 (rd l0 x4_1)) 5))))).trans hx172_0; replace hx172_0 := (cell_far (p := ⟨gb171, 1, none⟩) (by first | (rw [add_block]; exact hn172_1) | (show (Addr.add _ _).block ≠ _; rw [add_block]; exact hn172_1) | exact hn172_1) (.int .i64 (wrap64 (rd l0 (ji6))))).trans hx172_0; replace hx172_0 := (cell_far (p := ⟨gb171, 2, none⟩) (by first | (rw [add_block]; exact hn172_2) | (show (Addr.add _ _).block ≠ _; rw [add_block]; exact hn172_2) | exact hn172_2) (.string (⟨#[]⟩ : ByteArray))).trans hx172_0; clear hn172_0; clear hn172_1; clear hn172_2; replace p172 := eq_true p172; replace q172 := eq_true q172))
          (try simp only [Act.put, List.setIfInBounds_toArray, List.set_cons_zero, List.set_cons_succ])
          go_cut [] (fun wc => ∃ (kq : Nat) (x172000_10 : Int), Aside0 (boomeranglaw4_Host.j2 kq l0 x3_1 x4_1 (wrap64 (rd l0 (ji6))) x172000_10 (wrap64 (rd l0 (ji6))) (⟨#[]⟩ : ByteArray) = some r) ∧ Aside0 (kq ≤ kj1) ∧ Aside0 (Kd.R k25 25 wc w.heap.size (fun k_ => k_ ≠ gb171) u3 x3_1) ∧ Aside0 (wc.heap[gb171]? = some (.cells #[.int .i64 x172000_10, .int .i64 (wrap64 (rd l0 (ji6))), .string (⟨#[]⟩ : ByteArray)] 25 (0, 0))) ∧ Aside0 (Below w.heap.size w wc))
          case first =>
           have H := HC11.out
           clear HC11
           by_cases c14 : (rd l0 x4_1) ≥ 128
           ·rw [if_pos c14] at H
            have c14b0 : decide (128 ≤ (rd l0 x4_1)) = true := decide_eq_true c14
            clear c14
            (first | rw [c14b0] | (simp only [i64_w, i32_w]; rw [c14b0]) | skip)
            have H' := Aside0.mk H
            clear H
            have hcz15_0 : w12.cell? ⟨gb171, 0, none⟩ = some (.int .i64 0) := (blk_cell BK171.out 0).trans rfl
            have hcz15_1 : w12.cell? ⟨gb171, 1, none⟩ = some (.int .i64 0) := (blk_cell BK171.out 1).trans rfl
            have hcz15_2 : w12.cell? ⟨gb171, 2, none⟩ = some (.string (⟨#[]⟩ : ByteArray)) := (blk_cell BK171.out 2).trans rfl
            have hfz15_0 := blk_frozen BK171.out 0
            have hfz15_1 := blk_frozen BK171.out 1
            have hfz15_2 := blk_frozen BK171.out 2
            go_wp2
            go_meet
            case rel => exact ⟨_, (5), H', ⟨by have := HK1.out; have := HJ1.out; first | omega | exact Nat.le_refl _⟩, ⟨by (with_reducible repeat (first | apply Kd.R_alloc | apply Kd.R_drewN | apply Kd.R_drew)); exact Kd.R_mono (Kd.R_far (p := ⟨gb171, 0, none⟩) (Kd.R_far (p := ⟨gb171, 2, none⟩) (Kd.R_far (p := ⟨gb171, 1, none⟩) (Kd.R_far (p := ⟨gb171, 0, none⟩) (Kd.R_mono HO_3.out (fun k_ hk => (⟨hk, hk.2⟩ : _ ∧ k_ ≠ gb171))) (fun _ hk => hk.2) (.int .i64 (wrap64 (1 + (Int.tmod (wrap64 (rd l0 x4_1)) 5))))) (fun _ hk => hk.2) (.int .i64 (wrap64 (rd l0 (ji6))))) (fun _ hk => hk.2) (.string (⟨#[]⟩ : ByteArray))) (fun _ hk => hk.2) (.int .i64 5)) (fun _ hk => hk.1.2)⟩, ⟨by (with_reducible repeat (first | refine blk_drewN ?_ _ | refine blk_drew ?_ | refine blk_alloc ?_ _)); refine blk_put (cs := #[.int .i64 (wrap64 (1 + (Int.tmod (wrap64 (rd l0 x4_1)) 5))), .int .i64 (wrap64 (rd l0 (ji6))), .string (⟨#[]⟩ : ByteArray)]) ?_ 0 _ rfl; (with_reducible repeat (first | refine blk_drewN ?_ _ | refine blk_drew ?_ | refine blk_alloc ?_ _)); refine blk_put (cs := #[.int .i64 (wrap64 (1 + (Int.tmod (wrap64 (rd l0 x4_1)) 5))), .int .i64 (wrap64 (rd l0 (ji6))), .string (⟨#[]⟩ : ByteArray)]) ?_ 2 _ rfl; (with_reducible repeat (first | refine blk_drewN ?_ _ | refine blk_drew ?_ | refine blk_alloc ?_ _)); refine blk_put (cs := #[.int .i64 (wrap64 (1 + (Int.tmod (wrap64 (rd l0 x4_1)) 5))), .int .i64 0, .string (⟨#[]⟩ : ByteArray)]) ?_ 1 _ rfl; (with_reducible repeat (first | refine blk_drewN ?_ _ | refine blk_drew ?_ | refine blk_alloc ?_ _)); refine blk_put (cs := #[.int .i64 0, .int .i64 0, .string (⟨#[]⟩ : ByteArray)]) ?_ 0 _ rfl; (with_reducible repeat (first | refine blk_drewN ?_ _ | refine blk_drew ?_ | refine blk_alloc ?_ _)); exact BK171.out⟩, ⟨by repeat (first | (with_reducible first | exact HB.out | apply below_alloc | apply pw_below_drewN | apply below_drew1 | refine below_set ?_ GE171.out) | exact HB.out)⟩⟩
           ·rw [if_neg c14] at H
            have c14b0 : decide (128 ≤ (rd l0 x4_1)) = false := decide_eq_false c14
            clear c14
            (first | rw [c14b0] | (simp only [i64_w, i32_w]; rw [c14b0]) | skip)
            have H' := Aside0.mk H
            clear H
            go_wp2
            go_meet
            case rel => exact ⟨_, (wrap64 (1 + (Int.tmod (wrap64 (rd l0 x4_1)) 5))), H', ⟨by have := HK1.out; have := HJ1.out; first | omega | exact Nat.le_refl _⟩, ⟨by (with_reducible repeat (first | apply Kd.R_alloc | apply Kd.R_drewN | apply Kd.R_drew)); exact Kd.R_mono (Kd.R_far (p := ⟨gb171, 2, none⟩) (Kd.R_far (p := ⟨gb171, 1, none⟩) (Kd.R_far (p := ⟨gb171, 0, none⟩) (Kd.R_mono HO_3.out (fun k_ hk => (⟨hk, hk.2⟩ : _ ∧ k_ ≠ gb171))) (fun _ hk => hk.2) (.int .i64 (wrap64 (1 + (Int.tmod (wrap64 (rd l0 x4_1)) 5))))) (fun _ hk => hk.2) (.int .i64 (wrap64 (rd l0 (ji6))))) (fun _ hk => hk.2) (.string (⟨#[]⟩ : ByteArray))) (fun _ hk => hk.1.2)⟩, ⟨by (with_reducible repeat (first | refine blk_drewN ?_ _ | refine blk_drew ?_ | refine blk_alloc ?_ _)); refine blk_put (cs := #[.int .i64 (wrap64 (1 + (Int.tmod (wrap64 (rd l0 x4_1)) 5))), .int .i64 (wrap64 (rd l0 (ji6))), .string (⟨#[]⟩ : ByteArray)]) ?_ 2 _ rfl; (with_reducible repeat (first | refine blk_drewN ?_ _ | refine blk_drew ?_ | refine blk_alloc ?_ _)); refine blk_put (cs := #[.int .i64 (wrap64 (1 + (Int.tmod (wrap64 (rd l0 x4_1)) 5))), .int .i64 0, .string (⟨#[]⟩ : ByteArray)]) ?_ 1 _ rfl; (with_reducible repeat (first | refine blk_drewN ?_ _ | refine blk_drew ?_ | refine blk_alloc ?_ _)); refine blk_put (cs := #[.int .i64 0, .int .i64 0, .string (⟨#[]⟩ : ByteArray)]) ?_ 0 _ rfl; (with_reducible repeat (first | refine blk_drewN ?_ _ | refine blk_drew ?_ | refine blk_alloc ?_ _)); exact BK171.out⟩, ⟨by repeat (first | (with_reducible first | exact HB.out | apply below_alloc | apply pw_below_drewN | apply below_drew1 | refine below_set ?_ GE171.out) | exact HB.out)⟩⟩
          case rest =>
           clear HC11
           try clear c1
           try clear p1
           try clear q1
           try clear hx1
           try clear c2
           try clear p2
           try clear c3
           try clear c3b0
           try clear c5
           try clear p6
           try clear c7
           try clear c7b0
           try clear c8
           try clear c8b0
           try clear c9
           try clear c9b0
           try clear c10
           try clear c10b0
           try clear c14
           try clear c14b0
           try clear hcz13_0
           try clear hcz13_1
           try clear hcz13_2
           try clear hcz15_0
           try clear hcz15_1
           try clear hcz15_2
           try clear hfz13_0
           try clear hfz13_1
           try clear hfz13_2
           try clear hfz15_0
           try clear hfz15_1
           try clear hfz15_2
           try clear hx169_0
           try clear hx170_0
           try clear hx172_0
           try clear p169
           try clear p170
           try clear p172
           try clear p2
           try clear q169
           try clear q170
           try clear q172
           obtain ⟨kq, x172000_10, HA, HJ10, HO_3, BK171, HB⟩ := hcut
           cases kq with
           | zero => exact absurd HA.out (by simp [boomeranglaw4_Host.j2])
           | succ kj10 =>
            have H := HA.out
            clear HA
            simp only [boomeranglaw4_Host.j2] at H
            have HC16 := Aside0.mk H
            clear H
            go_upto_region 9 with (fail)
            go_cut [47] (fun v47 wc => ∃ (kq : Nat) (x47_15 : Bool), v47 = .bool x47_15 ∧ Aside0 (boomeranglaw4_Host.j3 kq l0 x3_1 x4_1 (wrap64 (rd l0 (ji6))) x47_15 x172000_10 (wrap64 (rd l0 (ji6))) (⟨#[]⟩ : ByteArray) = some r) ∧ Aside0 (kq ≤ kj10) ∧ Aside0 (Kd.R k25 25 wc w.heap.size (fun k_ => k_ ≠ gb171) u3 x3_1) ∧ Aside0 (wc.heap[gb171]? = some (.cells #[.int .i64 x172000_10, .int .i64 (wrap64 (rd l0 (ji6))), .string (⟨#[]⟩ : ByteArray)] 25 (0, 0))) ∧ Aside0 (Below w.heap.size w wc))
            case first =>
             have H := HC16.out
             clear HC16
             by_cases c17 : x172000_10 = 3
             ·rw [if_pos c17] at H
              have c17b0 : (x172000_10 == 3) = true := beq_iff_eq.mpr c17
              have c17b1 : (x172000_10 != 3) = false := bne_eq_false_iff_eq.mpr c17
              clear c17
              (first | rw [c17b0] | (simp only [i64_w, i32_w]; rw [c17b0]) | skip)
              have H' := Aside0.mk H
              clear H
              have hcz18_0 : wc.cell? ⟨gb171, 0, none⟩ = some (.int .i64 x172000_10) := (blk_cell BK171.out 0).trans rfl
              have hcz18_1 : wc.cell? ⟨gb171, 1, none⟩ = some (.int .i64 (wrap64 (rd l0 (ji6)))) := (blk_cell BK171.out 1).trans rfl
              have hcz18_2 : wc.cell? ⟨gb171, 2, none⟩ = some (.string (⟨#[]⟩ : ByteArray)) := (blk_cell BK171.out 2).trans rfl
              have hfz18_0 := blk_frozen BK171.out 0
              have hfz18_1 := blk_frozen BK171.out 1
              have hfz18_2 := blk_frozen BK171.out 2
              go_wp2
              go_meet
              case rel => exact ⟨_, (true), (by first | rfl | (simp; done) | (simp [*]; done)), H', ⟨by have := HK1.out; have := HJ1.out; have := HJ10.out; first | omega | exact Nat.le_refl _⟩, ⟨by (with_reducible repeat (first | apply Kd.R_alloc | apply Kd.R_drewN | apply Kd.R_drew)); exact HO_3.out⟩, ⟨by (with_reducible repeat (first | refine blk_drewN ?_ _ | refine blk_drew ?_ | refine blk_alloc ?_ _)); exact BK171.out⟩, ⟨by repeat (first | (with_reducible first | exact HB.out | apply below_alloc | apply pw_below_drewN | apply below_drew1 | refine below_set ?_ GE171.out) | exact HB.out)⟩⟩
             ·rw [if_neg c17] at H
              have c17b0 : (x172000_10 == 3) = false := beq_eq_false_iff_ne.mpr c17
              have c17b1 : (x172000_10 != 3) = true := bne_iff_ne.mpr c17
              (first | rw [c17b0] | (simp only [i64_w, i32_w]; rw [c17b0]) | skip)
              have H' := Aside0.mk H
              clear H
              have hcz19_0 : wc.cell? ⟨gb171, 0, none⟩ = some (.int .i64 x172000_10) := (blk_cell BK171.out 0).trans rfl
              have hcz19_1 : wc.cell? ⟨gb171, 1, none⟩ = some (.int .i64 (wrap64 (rd l0 (ji6)))) := (blk_cell BK171.out 1).trans rfl
              have hcz19_2 : wc.cell? ⟨gb171, 2, none⟩ = some (.string (⟨#[]⟩ : ByteArray)) := (blk_cell BK171.out 2).trans rfl
              have hfz19_0 := blk_frozen BK171.out 0
              have hfz19_1 := blk_frozen BK171.out 1
              have hfz19_2 := blk_frozen BK171.out 2
              go_wp2
              go_meet
              case rel => exact ⟨_, ((x172000_10 == 4)), (by first | rfl | (simp; done) | (simp [*]; done)), H', ⟨by have := HK1.out; have := HJ1.out; have := HJ10.out; first | omega | exact Nat.le_refl _⟩, ⟨by (with_reducible repeat (first | apply Kd.R_alloc | apply Kd.R_drewN | apply Kd.R_drew)); exact HO_3.out⟩, ⟨by (with_reducible repeat (first | refine blk_drewN ?_ _ | refine blk_drew ?_ | refine blk_alloc ?_ _)); exact BK171.out⟩, ⟨by repeat (first | (with_reducible first | exact HB.out | apply below_alloc | apply pw_below_drewN | apply below_drew1 | refine below_set ?_ GE171.out) | exact HB.out)⟩⟩
            case rest =>
             clear HC16
             try clear c1
             try clear p1
             try clear q1
             try clear hx1
             try clear c2
             try clear p2
             try clear c3
             try clear c3b0
             try clear c5
             try clear p6
             try clear c7
             try clear c7b0
             try clear c8
             try clear c8b0
             try clear c9
             try clear c9b0
             try clear c10
             try clear c10b0
             try clear c14
             try clear c14b0
             try clear p16
             try clear q16
             try clear hx16
             try clear c17
             try clear c17b0
             try clear c17b1
             try clear p17
             try clear q17
             try clear hx17
             try clear hcz13_0
             try clear hcz13_1
             try clear hcz13_2
             try clear hcz15_0
             try clear hcz15_1
             try clear hcz15_2
             try clear hcz18_0
             try clear hcz18_1
             try clear hcz18_2
             try clear hcz19_0
             try clear hcz19_1
             try clear hcz19_2
             try clear hfz13_0
             try clear hfz13_1
             try clear hfz13_2
             try clear hfz15_0
             try clear hfz15_1
             try clear hfz15_2
             try clear hfz18_0
             try clear hfz18_1
             try clear hfz18_2
             try clear hfz19_0
             try clear hfz19_1
             try clear hfz19_2
             try clear hx169_0
             try clear hx170_0
             try clear hx172_0
             try clear p1
             try clear p169
             try clear p170
             try clear p172
             try clear p2
             try clear p6
             try clear q1
             try clear q169
             try clear q170
             try clear q172
             obtain ⟨kq, x47_15, rfl, HA, HJ15, HO_3, BK171, HB⟩ := hcut
             cases kq with
             | zero => exact absurd HA.out (by simp [boomeranglaw4_Host.j3])
             | succ kj15 =>
              have H := HA.out
              clear HA
              simp only [boomeranglaw4_Host.j3] at H
              by_cases c20 : x47_15 = true
              ·subst c20
               have H1 : ((some (([(⟨#[]⟩ : ByteArray), (⟨#[111, 107]⟩ : ByteArray), (⟨#[101]⟩ : ByteArray), (⟨#[97, 32, 98]⟩ : ByteArray), (⟨#[91, 49, 44, 50, 93]⟩ : ByteArray)] : List ByteArray) : List ByteArray)).bind fun y173 => (if 0 ≤ (Int.tmod (wrap64 (rd l0 (ji6))) 5) then (if (Int.tmod (wrap64 (rd l0 (ji6))) 5) < (y173.length : Int) then (if x172000_10 = 2 then (if x3_1.length < 4398046511104 then (boomeranglaw4_Host.l0 kj15 l0 (x3_1 ++ [(⟨x172000_10, wrap64 ((wrap64 (rd l0 (ji6))) - 100), rdOf ByteArray.empty y173 (Int.tmod (wrap64 (rd l0 (ji6))) 5)⟩ : S25)]) (wrap64 (x4_1 + 2))) else (none)) else (if x3_1.length < 4398046511104 then (boomeranglaw4_Host.l0 kj15 l0 (x3_1 ++ [(⟨x172000_10, 0, rdOf ByteArray.empty y173 (Int.tmod (wrap64 (rd l0 (ji6))) 5)⟩ : S25)]) (wrap64 (x4_1 + 2))) else (none))) else (none)) else (none))) = some r := by rw [if_pos rfl] at H; exact H
               clear H
               have H := H1
               clear H1
               obtain ⟨y173, hy173⟩ : ∃ y_ : List ByteArray, y_ = (([(⟨#[]⟩ : ByteArray), (⟨#[111, 107]⟩ : ByteArray), (⟨#[101]⟩ : ByteArray), (⟨#[97, 32, 98]⟩ : ByteArray), (⟨#[91, 49, 44, 50, 93]⟩ : ByteArray)] : List ByteArray)) := ⟨_, rfl⟩
               replace H : (if 0 ≤ (Int.tmod (wrap64 (rd l0 (ji6))) 5) then (if (Int.tmod (wrap64 (rd l0 (ji6))) 5) < (y173.length : Int) then (if x172000_10 = 2 then (if x3_1.length < 4398046511104 then (boomeranglaw4_Host.l0 kj15 l0 (x3_1 ++ [(⟨x172000_10, wrap64 ((wrap64 (rd l0 (ji6))) - 100), rdOf ByteArray.empty y173 (Int.tmod (wrap64 (rd l0 (ji6))) 5)⟩ : S25)]) (wrap64 (x4_1 + 2))) else (none)) else (if x3_1.length < 4398046511104 then (boomeranglaw4_Host.l0 kj15 l0 (x3_1 ++ [(⟨x172000_10, 0, rdOf ByteArray.empty y173 (Int.tmod (wrap64 (rd l0 (ji6))) 5)⟩ : S25)]) (wrap64 (x4_1 + 2))) else (none))) else (none)) else (none)) = some r := by first | (rw [hy173]; with_reducible exact H) | (have H2_ := (Option.bind_some _ _).symm.trans H; rw [hy173]; with_reducible exact H2_) | (have H2_ := (Option.bind_some _ _).symm.trans H; with_reducible exact H2_) | with_reducible exact H | (rw [hy173]; exact H) | exact H
               have Ny173 := Aside0.mk hy173
               clear hy173
               obtain ⟨ji21, hji21⟩ : ∃ j_ : Int, (Int.tmod (wrap64 (rd l0 (ji6))) 5) = j_ := ⟨_, rfl⟩
               replace H : (if 0 ≤ (ji21) then (if (ji21) < (y173.length : Int) then (if x172000_10 = 2 then (if x3_1.length < 4398046511104 then (boomeranglaw4_Host.l0 kj15 l0 (x3_1 ++ [(⟨x172000_10, wrap64 ((wrap64 (rd l0 (ji6))) - 100), rdOf ByteArray.empty y173 (ji21)⟩ : S25)]) (wrap64 (x4_1 + 2))) else (none)) else (if x3_1.length < 4398046511104 then (boomeranglaw4_Host.l0 kj15 l0 (x3_1 ++ [(⟨x172000_10, 0, rdOf ByteArray.empty y173 (ji21)⟩ : S25)]) (wrap64 (x4_1 + 2))) else (none))) else (none)) else (none)) = some r := by first | (rw [hji21] at H; exact H) | (simp only [hji21] at H ⊢; exact H)
               by_cases c22 : 0 ≤ (ji21)
               ·rw [if_pos c22] at H
                have c22b0 : decide (0 ≤ (ji21)) = true := decide_eq_true c22
                clear c22
                by_cases c23 : (ji21) < (y173.length : Int)
                ·rw [if_pos c23] at H
                 have c23b0 : decide ((ji21) < (y173.length : Int)) = true := decide_eq_true c23
                 clear c23
                 by_cases c24 : x172000_10 = 2
                 ·rw [if_pos c24] at H
                  have c24b0 : (x172000_10 == 2) = true := beq_iff_eq.mpr c24
                  have c24b1 : (x172000_10 != 2) = false := bne_eq_false_iff_eq.mpr c24
                  clear c24
                  by_cases c25 : x3_1.length < 4398046511104
                  ·rw [if_pos c25] at H
                   have LMc25 := Aside0.mk c25
                   clear c25
                   obtain ⟨y177, hy177⟩ : ∃ y_ : List (S25), y_ = (x3_1 ++ [(⟨x172000_10, wrap64 ((wrap64 (rd l0 (ji6))) - 100), rdOf ByteArray.empty y173 (ji21)⟩ : S25)]) := ⟨_, rfl⟩
                   replace H : (boomeranglaw4_Host.l0 kj15 l0 y177 (wrap64 (x4_1 + 2))) = some r := by first | (rw [hy177]; with_reducible exact H) | (have H2_ := (Option.bind_some _ _).symm.trans H; rw [hy177]; with_reducible exact H2_) | (have H2_ := (Option.bind_some _ _).symm.trans H; with_reducible exact H2_) | with_reducible exact H | (rw [hy177]; exact H) | exact H
                   have Ny177 := Aside0.mk hy177
                   clear hy177
                   have H' := Aside0.mk H
                   clear H
                   have hcz26_0 : wc.cell? ⟨gb171, 0, none⟩ = some (.int .i64 x172000_10) := (blk_cell BK171.out 0).trans rfl
                   have hcz26_1 : wc.cell? ⟨gb171, 1, none⟩ = some (.int .i64 (wrap64 (rd l0 (ji6)))) := (blk_cell BK171.out 1).trans rfl
                   have hcz26_2 : wc.cell? ⟨gb171, 2, none⟩ = some (.string (⟨#[]⟩ : ByteArray)) := (blk_cell BK171.out 2).trans rfl
                   have hfz26_0 := blk_frozen BK171.out 0
                   have hfz26_1 := blk_frozen BK171.out 1
                   have hfz26_2 := blk_frozen BK171.out 2
                   go_wp2_with (first | ((with_reducible refine gate_dst (N := 49) rfl ?_); (try (refine gate_guard (by rfl) ?_; dsimp only)); refine Kd.R_lit Kd.string _ 9 ?hg (N := 49) ?hd (xs := ([(⟨#[]⟩ : ByteArray), (⟨#[111, 107]⟩ : ByteArray), (⟨#[101]⟩ : ByteArray), (⟨#[97, 32, 98]⟩ : ByteArray), (⟨#[91, 49, 44, 50, 93]⟩ : ByteArray)] : List ByteArray)) (inner := [.string (⟨#[]⟩ : ByteArray), .string (⟨#[111, 107]⟩ : ByteArray), .string (⟨#[101]⟩ : ByteArray), .string (⟨#[97, 32, 98]⟩ : ByteArray), .string (⟨#[91, 49, 44, 50, 93]⟩ : ByteArray)]) (ok := fun _ => True) (okp := fun _ => True) ?hr ?hp (fun _ hk => hk) trivial (Below.refl _ _) (Nat.le_refl _) (by simp) ?_; (case hd => rfl); (case hg => rfl); (case hr => first | (go_simp; done) | (go_simp; rfl)); (case hp => exact (Reps.one (show Kd.M Kd.string _ _ _ (⟨#[]⟩ : ByteArray) [.string (⟨#[]⟩ : ByteArray)] from rfl) (Reps.one (show Kd.M Kd.string _ _ _ (⟨#[111, 107]⟩ : ByteArray) [.string (⟨#[111, 107]⟩ : ByteArray)] from rfl) (Reps.one (show Kd.M Kd.string _ _ _ (⟨#[101]⟩ : ByteArray) [.string (⟨#[101]⟩ : ByteArray)] from rfl) (Reps.one (show Kd.M Kd.string _ _ _ (⟨#[97, 32, 98]⟩ : ByteArray) [.string (⟨#[97, 32, 98]⟩ : ByteArray)] from rfl) (Reps.one (show Kd.M Kd.string _ _ _ (⟨#[91, 49, 44, 50, 93]⟩ : ByteArray) [.string (⟨#[91, 49, 44, 50, 93]⟩ : ByteArray)] from rfl) (Reps.none _ _))))))); intro v174 w27 ho28 hb hg_ hnew_; clear hg_ hnew_; (first | rw [← Ny173.out] at ho28 | (simp only [Int.reduceToNat] at ho28; rw [← Ny173.out] at ho28)); have n0_ := Aside0.mk (Kd.R_below (by (with_reducible repeat (first | apply Kd.R_alloc | apply Kd.R_drewN | apply Kd.R_drew)); exact (Kd.R_mono (Kd.R_far (p := ⟨gb171, 1, none⟩) (Kd.R_mono HO_3.out (fun k_ hk => (⟨hk, hk⟩ : _ ∧ k_ ≠ gb171))) (fun _ hk => hk.2) (.int .i64 0)) (fun _ h_ => h_.1))) hb); have n1_ := Aside0.mk (Kd.R_lower ho28 (below_size (by repeat (first | (with_reducible first | exact HB.out | apply below_alloc | apply pw_below_drewN | apply below_drew1 | refine below_set ?_ GE171.out) | exact HB.out)))); have n2_ := Aside0.mk (blk_below (g := gb171) (o := .cells #[.int .i64 x172000_10, .int .i64 0, .string (⟨#[]⟩ : ByteArray)] 25 (0, 0)) (by (with_reducible repeat (first | refine blk_drewN ?_ _ | refine blk_drew ?_ | refine blk_alloc ?_ _)); refine blk_put (cs := #[.int .i64 x172000_10, .int .i64 (wrap64 (rd l0 (ji6))), .string (⟨#[]⟩ : ByteArray)]) ?_ 1 _ rfl; (with_reducible repeat (first | refine blk_drewN ?_ _ | refine blk_drew ?_ | refine blk_alloc ?_ _)); exact BK171.out) hb); have n3_ := Aside0.mk (below_step (by repeat (first | (with_reducible first | exact HB.out | apply below_alloc | apply pw_below_drewN | apply below_drew1 | refine below_set ?_ GE171.out) | exact HB.out)) hb); clear HO_3; clear BK171; clear HB; have HO_3 := n0_; have HO175 := n1_; have BK171 := n2_; have HB := n3_; clear n0_ n1_ n2_ n3_; clear hb ho28; obtain ⟨Ao29, co29, eo29⟩ := Kd.R_slice HO175.out; subst eo29; have p176 : 0 ≤ ((ji21) : Int) := of_decide_eq_true (by first | (with_reducible assumption) | assumption); have q176 : (ji21) < (y173.length : Int) := of_decide_eq_true (by first | (with_reducible assumption) | assumption); obtain ⟨ad176, e176, hx176_0⟩ := Kd.at_string (Kd.R_reads' HO175.out).2.2 (ji21) p176 q176; cases e176; replace p176 := eq_true p176; replace q176 := eq_true q176; have hcz30_0 : w27.cell? ⟨gb171, 0, none⟩ = some (.int .i64 x172000_10) := (blk_cell BK171.out 0).trans rfl; have hcz30_1 : w27.cell? ⟨gb171, 1, none⟩ = some (.int .i64 0) := (blk_cell BK171.out 1).trans rfl; have hcz30_2 : w27.cell? ⟨gb171, 2, none⟩ = some (.string (⟨#[]⟩ : ByteArray)) := (blk_cell BK171.out 2).trans rfl; have hfz30_0 := blk_frozen BK171.out 0; have hfz30_1 := blk_frozen BK171.out 1; have hfz30_2 := blk_frozen BK171.out 2) | ((with_reducible refine gate_builtin (b := .append) (xs := #[.tmp 61, .tmp 63]) rfl ?_); (try (refine gate_guard (by rfl) ?_; dsimp only)); at_builtin; refine Kd.R_append k25 (w0 := w) w.heap.size rfl (.tmp 61) (.tmp 63) 54 25 (.agg #[(.int .i64 0), (.int .i64 0), (.string ⟨#[]⟩)]) 32 rfl Try.underlying54 info25 rfl (by decide) (by omega) u3 x3_1 (⟨x172000_10, wrap64 ((wrap64 (rd l0 (ji6))) - 100), rdOf ByteArray.empty y173 (ji21)⟩ : S25) [.int .i64 x172000_10, .int .i64 (wrap64 ((wrap64 (rd l0 (ji6))) - 100)), .string (rdOf ByteArray.empty y173 (ji21))] (fun k_ => k_ ≠ gb171) (fun _ => False) rfl (by first | (go_simp; done) | (go_simp; rfl)) ?aP (fun _ hk => hk.elim) ?aF ?aO ?aB ?aS ?aL ?_; (case aP => exact k25_mkM _ _ _ (⟨x172000_10, wrap64 ((wrap64 (rd l0 (ji6))) - 100), rdOf ByteArray.empty y173 (ji21)⟩ : S25)); (case aB => exact (by repeat (first | (with_reducible first | exact HB.out | apply below_alloc | apply pw_below_drewN | apply below_drew1 | refine below_set ?_ GE171.out) | exact HB.out))); (case aF => exact (fun k_ hk => Kd.freshB (g := gb171) (o := .cells #[.int .i64 x172000_10, .int .i64 (wrap64 ((wrap64 (rd l0 (ji6))) - 100)), .string (rdOf ByteArray.empty y173 (ji21))] 25 (0, 0)) (by (with_reducible repeat (first | refine blk_drewN ?_ _ | refine blk_drew ?_ | refine blk_alloc ?_ _)); refine blk_put (cs := #[.int .i64 x172000_10, .int .i64 0, .string (rdOf ByteArray.empty y173 (ji21))]) ?_ 1 _ rfl; (with_reducible repeat (first | refine blk_drewN ?_ _ | refine blk_drew ?_ | refine blk_alloc ?_ _)); refine blk_put (cs := #[.int .i64 x172000_10, .int .i64 0, .string (⟨#[]⟩ : ByteArray)]) ?_ 2 _ rfl; (with_reducible repeat (first | refine blk_drewN ?_ _ | refine blk_drew ?_ | refine blk_alloc ?_ _)); exact BK171.out) k_ hk)); (case aO => exact (by (with_reducible repeat (first | apply Kd.R_alloc | apply Kd.R_drewN | apply Kd.R_drew)); exact Kd.R_mono (Kd.R_far (p := ⟨gb171, 1, none⟩) (Kd.R_far (p := ⟨gb171, 2, none⟩) (Kd.R_mono HO_3.out (fun k_ hk => (⟨hk, hk⟩ : _ ∧ k_ ≠ gb171))) (fun _ hk => hk.2) (.string (rdOf ByteArray.empty y173 (ji21)))) (fun _ hk => hk.2) (.int .i64 (wrap64 ((wrap64 (rd l0 (ji6))) - 100)))) (fun _ hk => hk.1))); (case aS => exact (below_size (by repeat (first | (with_reducible first | exact HB.out | apply below_alloc | apply pw_below_drewN | apply below_drew1 | refine below_set ?_ GE171.out) | exact HB.out)))); (case aL => have := LMc25.out; omega); intro v178 w31 ho hb hg hat; rw [← Ny177.out] at ho; have n0_ := Aside0.mk (blk_grown (g := gb171) (o := .cells #[.int .i64 x172000_10, .int .i64 (wrap64 ((wrap64 (rd l0 (ji6))) - 100)), .string (rdOf ByteArray.empty y173 (ji21))] 25 (0, 0)) (by (with_reducible repeat (first | refine blk_drewN ?_ _ | refine blk_drew ?_ | refine blk_alloc ?_ _)); refine blk_put (cs := #[.int .i64 x172000_10, .int .i64 0, .string (rdOf ByteArray.empty y173 (ji21))]) ?_ 1 _ rfl; (with_reducible repeat (first | refine blk_drewN ?_ _ | refine blk_drew ?_ | refine blk_alloc ?_ _)); refine blk_put (cs := #[.int .i64 x172000_10, .int .i64 0, .string (⟨#[]⟩ : ByteArray)]) ?_ 2 _ rfl; (with_reducible repeat (first | refine blk_drewN ?_ _ | refine blk_drew ?_ | refine blk_alloc ?_ _)); exact BK171.out) hg (Kd.R_away HO_3.out (fun _ hk => hk))); have n1_ := Aside0.mk (Kd.R_over' (by (with_reducible repeat (first | apply Kd.R_alloc | apply Kd.R_drewN | apply Kd.R_drew)); exact (Kd.R_mono (Kd.R_far (p := ⟨gb171, 1, none⟩) (Kd.R_far (p := ⟨gb171, 2, none⟩) (Kd.R_types HO175.out BK171.out (by decide)) (fun _ hk => hk.2) (.string (rdOf ByteArray.empty y173 (ji21)))) (fun _ hk => hk.2) (.int .i64 (wrap64 ((wrap64 (rd l0 (ji6))) - 100)))) (fun _ h_ => h_.1))) (Kd.R_typed (by (with_reducible repeat (first | apply Kd.R_alloc | apply Kd.R_drewN | apply Kd.R_drew)); exact (Kd.R_mono (Kd.R_far (p := ⟨gb171, 1, none⟩) (Kd.R_far (p := ⟨gb171, 2, none⟩) (Kd.R_mono HO_3.out (fun k_ hk => (⟨hk, hk⟩ : _ ∧ k_ ≠ gb171))) (fun _ hk => hk.2) (.string (rdOf ByteArray.empty y173 (ji21)))) (fun _ hk => hk.2) (.int .i64 (wrap64 ((wrap64 (rd l0 (ji6))) - 100)))) (fun _ h_ => h_.1)))) (by decide) hg); have n2_ := Aside0.mk (hb); have n3_ := Aside0.mk (ho); clear BK171; clear HO175; clear HB; clear HO_3; have BK171 := n0_; have HO175 := n1_; have HB := n2_; have HO179 := n3_; clear n0_ n1_ n2_ n3_; clear ho hb hg hat))
                   go_roundg kj15
                   case measure => have := HK1.out; have := HJ1.out; have := HJ10.out; have := HJ15.out; omega
                   case rel => exact ⟨(y177), (wrap64 (x4_1 + 2)), (by first | rfl | (simp; done) | (simp [*]; done)), H', ⟨by have := HK1.out; have := HJ1.out; have := HJ10.out; have := HJ15.out; omega⟩, ⟨by (with_reducible repeat (first | apply Kd.R_alloc | apply Kd.R_drewN | apply Kd.R_drew)); exact Kd.R_mono HO179.out (fun _ hk => trivial)⟩, ⟨by repeat (first | (with_reducible first | exact HB.out | apply below_alloc | apply pw_below_drewN | apply below_drew1 | refine below_set ?_ GE171.out) | exact HB.out)⟩⟩
                  ·rw [if_neg c25] at H
                   exact absurd H (by simp)
                 ·rw [if_neg c24] at H
                  have c24b0 : (x172000_10 == 2) = false := beq_eq_false_iff_ne.mpr c24
                  have c24b1 : (x172000_10 != 2) = true := bne_iff_ne.mpr c24
                  by_cases c32 : x3_1.length < 4398046511104
                  ·rw [if_pos c32] at H
                   have LMc32 := Aside0.mk c32
                   clear c32
                   obtain ⟨y180, hy180⟩ : ∃ y_ : List (S25), y_ = (x3_1 ++ [(⟨x172000_10, 0, rdOf ByteArray.empty y173 (ji21)⟩ : S25)]) := ⟨_, rfl⟩
                   replace H : (boomeranglaw4_Host.l0 kj15 l0 y180 (wrap64 (x4_1 + 2))) = some r := by first | (rw [hy180]; with_reducible exact H) | (have H2_ := (Option.bind_some _ _).symm.trans H; rw [hy180]; with_reducible exact H2_) | (have H2_ := (Option.bind_some _ _).symm.trans H; with_reducible exact H2_) | with_reducible exact H | (rw [hy180]; exact H) | exact H
                   have Ny180 := Aside0.mk hy180
                   clear hy180
                   have H' := Aside0.mk H
                   clear H
                   have hcz33_0 : wc.cell? ⟨gb171, 0, none⟩ = some (.int .i64 x172000_10) := (blk_cell BK171.out 0).trans rfl
                   have hcz33_1 : wc.cell? ⟨gb171, 1, none⟩ = some (.int .i64 (wrap64 (rd l0 (ji6)))) := (blk_cell BK171.out 1).trans rfl
                   have hcz33_2 : wc.cell? ⟨gb171, 2, none⟩ = some (.string (⟨#[]⟩ : ByteArray)) := (blk_cell BK171.out 2).trans rfl
                   have hfz33_0 := blk_frozen BK171.out 0
                   have hfz33_1 := blk_frozen BK171.out 1
                   have hfz33_2 := blk_frozen BK171.out 2
                   go_wp2_with (first | ((with_reducible refine gate_dst (N := 49) rfl ?_); (try (refine gate_guard (by rfl) ?_; dsimp only)); refine Kd.R_lit Kd.string _ 9 ?hg (N := 49) ?hd (xs := ([(⟨#[]⟩ : ByteArray), (⟨#[111, 107]⟩ : ByteArray), (⟨#[101]⟩ : ByteArray), (⟨#[97, 32, 98]⟩ : ByteArray), (⟨#[91, 49, 44, 50, 93]⟩ : ByteArray)] : List ByteArray)) (inner := [.string (⟨#[]⟩ : ByteArray), .string (⟨#[111, 107]⟩ : ByteArray), .string (⟨#[101]⟩ : ByteArray), .string (⟨#[97, 32, 98]⟩ : ByteArray), .string (⟨#[91, 49, 44, 50, 93]⟩ : ByteArray)]) (ok := fun _ => True) (okp := fun _ => True) ?hr ?hp (fun _ hk => hk) trivial (Below.refl _ _) (Nat.le_refl _) (by simp) ?_; (case hd => rfl); (case hg => rfl); (case hr => first | (go_simp; done) | (go_simp; rfl)); (case hp => exact (Reps.one (show Kd.M Kd.string _ _ _ (⟨#[]⟩ : ByteArray) [.string (⟨#[]⟩ : ByteArray)] from rfl) (Reps.one (show Kd.M Kd.string _ _ _ (⟨#[111, 107]⟩ : ByteArray) [.string (⟨#[111, 107]⟩ : ByteArray)] from rfl) (Reps.one (show Kd.M Kd.string _ _ _ (⟨#[101]⟩ : ByteArray) [.string (⟨#[101]⟩ : ByteArray)] from rfl) (Reps.one (show Kd.M Kd.string _ _ _ (⟨#[97, 32, 98]⟩ : ByteArray) [.string (⟨#[97, 32, 98]⟩ : ByteArray)] from rfl) (Reps.one (show Kd.M Kd.string _ _ _ (⟨#[91, 49, 44, 50, 93]⟩ : ByteArray) [.string (⟨#[91, 49, 44, 50, 93]⟩ : ByteArray)] from rfl) (Reps.none _ _))))))); intro v174 w34 ho35 hb hg_ hnew_; clear hg_ hnew_; (first | rw [← Ny173.out] at ho35 | (simp only [Int.reduceToNat] at ho35; rw [← Ny173.out] at ho35)); have n0_ := Aside0.mk (Kd.R_below (by (with_reducible repeat (first | apply Kd.R_alloc | apply Kd.R_drewN | apply Kd.R_drew)); exact (Kd.R_mono (Kd.R_far (p := ⟨gb171, 1, none⟩) (Kd.R_mono HO_3.out (fun k_ hk => (⟨hk, hk⟩ : _ ∧ k_ ≠ gb171))) (fun _ hk => hk.2) (.int .i64 0)) (fun _ h_ => h_.1))) hb); have n1_ := Aside0.mk (Kd.R_lower ho35 (below_size (by repeat (first | (with_reducible first | exact HB.out | apply below_alloc | apply pw_below_drewN | apply below_drew1 | refine below_set ?_ GE171.out) | exact HB.out)))); have n2_ := Aside0.mk (blk_below (g := gb171) (o := .cells #[.int .i64 x172000_10, .int .i64 0, .string (⟨#[]⟩ : ByteArray)] 25 (0, 0)) (by (with_reducible repeat (first | refine blk_drewN ?_ _ | refine blk_drew ?_ | refine blk_alloc ?_ _)); refine blk_put (cs := #[.int .i64 x172000_10, .int .i64 (wrap64 (rd l0 (ji6))), .string (⟨#[]⟩ : ByteArray)]) ?_ 1 _ rfl; (with_reducible repeat (first | refine blk_drewN ?_ _ | refine blk_drew ?_ | refine blk_alloc ?_ _)); exact BK171.out) hb); have n3_ := Aside0.mk (below_step (by repeat (first | (with_reducible first | exact HB.out | apply below_alloc | apply pw_below_drewN | apply below_drew1 | refine below_set ?_ GE171.out) | exact HB.out)) hb); clear HO_3; clear BK171; clear HB; have HO_3 := n0_; have HO175 := n1_; have BK171 := n2_; have HB := n3_; clear n0_ n1_ n2_ n3_; clear hb ho35; obtain ⟨Ao36, co36, eo36⟩ := Kd.R_slice HO175.out; subst eo36; have p176 : 0 ≤ ((ji21) : Int) := of_decide_eq_true (by first | (with_reducible assumption) | assumption); have q176 : (ji21) < (y173.length : Int) := of_decide_eq_true (by first | (with_reducible assumption) | assumption); obtain ⟨ad176, e176, hx176_0⟩ := Kd.at_string (Kd.R_reads' HO175.out).2.2 (ji21) p176 q176; cases e176; replace p176 := eq_true p176; replace q176 := eq_true q176; have hcz37_0 : w34.cell? ⟨gb171, 0, none⟩ = some (.int .i64 x172000_10) := (blk_cell BK171.out 0).trans rfl; have hcz37_1 : w34.cell? ⟨gb171, 1, none⟩ = some (.int .i64 0) := (blk_cell BK171.out 1).trans rfl; have hcz37_2 : w34.cell? ⟨gb171, 2, none⟩ = some (.string (⟨#[]⟩ : ByteArray)) := (blk_cell BK171.out 2).trans rfl; have hfz37_0 := blk_frozen BK171.out 0; have hfz37_1 := blk_frozen BK171.out 1; have hfz37_2 := blk_frozen BK171.out 2) | ((with_reducible refine gate_builtin (b := .append) (xs := #[.tmp 61, .tmp 63]) rfl ?_); (try (refine gate_guard (by rfl) ?_; dsimp only)); at_builtin; refine Kd.R_append k25 (w0 := w) w.heap.size rfl (.tmp 61) (.tmp 63) 54 25 (.agg #[(.int .i64 0), (.int .i64 0), (.string ⟨#[]⟩)]) 32 rfl Try.underlying54 info25 rfl (by decide) (by omega) u3 x3_1 (⟨x172000_10, 0, rdOf ByteArray.empty y173 (ji21)⟩ : S25) [.int .i64 x172000_10, .int .i64 0, .string (rdOf ByteArray.empty y173 (ji21))] (fun k_ => k_ ≠ gb171) (fun _ => False) rfl (by first | (go_simp; done) | (go_simp; rfl)) ?aP (fun _ hk => hk.elim) ?aF ?aO ?aB ?aS ?aL ?_; (case aP => exact k25_mkM _ _ _ (⟨x172000_10, 0, rdOf ByteArray.empty y173 (ji21)⟩ : S25)); (case aB => exact (by repeat (first | (with_reducible first | exact HB.out | apply below_alloc | apply pw_below_drewN | apply below_drew1 | refine below_set ?_ GE171.out) | exact HB.out))); (case aF => exact (fun k_ hk => Kd.freshB (g := gb171) (o := .cells #[.int .i64 x172000_10, .int .i64 0, .string (rdOf ByteArray.empty y173 (ji21))] 25 (0, 0)) (by (with_reducible repeat (first | refine blk_drewN ?_ _ | refine blk_drew ?_ | refine blk_alloc ?_ _)); refine blk_put (cs := #[.int .i64 x172000_10, .int .i64 0, .string (⟨#[]⟩ : ByteArray)]) ?_ 2 _ rfl; (with_reducible repeat (first | refine blk_drewN ?_ _ | refine blk_drew ?_ | refine blk_alloc ?_ _)); exact BK171.out) k_ hk)); (case aO => exact (by (with_reducible repeat (first | apply Kd.R_alloc | apply Kd.R_drewN | apply Kd.R_drew)); exact Kd.R_mono (Kd.R_far (p := ⟨gb171, 2, none⟩) (Kd.R_mono HO_3.out (fun k_ hk => (⟨hk, hk⟩ : _ ∧ k_ ≠ gb171))) (fun _ hk => hk.2) (.string (rdOf ByteArray.empty y173 (ji21)))) (fun _ hk => hk.1))); (case aS => exact (below_size (by repeat (first | (with_reducible first | exact HB.out | apply below_alloc | apply pw_below_drewN | apply below_drew1 | refine below_set ?_ GE171.out) | exact HB.out)))); (case aL => have := LMc32.out; omega); intro v181 w38 ho hb hg hat; rw [← Ny180.out] at ho; have n0_ := Aside0.mk (blk_grown (g := gb171) (o := .cells #[.int .i64 x172000_10, .int .i64 0, .string (rdOf ByteArray.empty y173 (ji21))] 25 (0, 0)) (by (with_reducible repeat (first | refine blk_drewN ?_ _ | refine blk_drew ?_ | refine blk_alloc ?_ _)); refine blk_put (cs := #[.int .i64 x172000_10, .int .i64 0, .string (⟨#[]⟩ : ByteArray)]) ?_ 2 _ rfl; (with_reducible repeat (first | refine blk_drewN ?_ _ | refine blk_drew ?_ | refine blk_alloc ?_ _)); exact BK171.out) hg (Kd.R_away HO_3.out (fun _ hk => hk))); have n1_ := Aside0.mk (Kd.R_over' (by (with_reducible repeat (first | apply Kd.R_alloc | apply Kd.R_drewN | apply Kd.R_drew)); exact (Kd.R_mono (Kd.R_far (p := ⟨gb171, 2, none⟩) (Kd.R_types HO175.out BK171.out (by decide)) (fun _ hk => hk.2) (.string (rdOf ByteArray.empty y173 (ji21)))) (fun _ h_ => h_.1))) (Kd.R_typed (by (with_reducible repeat (first | apply Kd.R_alloc | apply Kd.R_drewN | apply Kd.R_drew)); exact (Kd.R_mono (Kd.R_far (p := ⟨gb171, 2, none⟩) (Kd.R_mono HO_3.out (fun k_ hk => (⟨hk, hk⟩ : _ ∧ k_ ≠ gb171))) (fun _ hk => hk.2) (.string (rdOf ByteArray.empty y173 (ji21)))) (fun _ h_ => h_.1)))) (by decide) hg); have n2_ := Aside0.mk (hb); have n3_ := Aside0.mk (ho); clear BK171; clear HO175; clear HB; clear HO_3; have BK171 := n0_; have HO175 := n1_; have HB := n2_; have HO182 := n3_; clear n0_ n1_ n2_ n3_; clear ho hb hg hat))
                   go_roundg kj15
                   case measure => have := HK1.out; have := HJ1.out; have := HJ10.out; have := HJ15.out; omega
                   case rel => exact ⟨(y180), (wrap64 (x4_1 + 2)), (by first | rfl | (simp; done) | (simp [*]; done)), H', ⟨by have := HK1.out; have := HJ1.out; have := HJ10.out; have := HJ15.out; omega⟩, ⟨by (with_reducible repeat (first | apply Kd.R_alloc | apply Kd.R_drewN | apply Kd.R_drew)); exact Kd.R_mono HO182.out (fun _ hk => trivial)⟩, ⟨by repeat (first | (with_reducible first | exact HB.out | apply below_alloc | apply pw_below_drewN | apply below_drew1 | refine below_set ?_ GE171.out) | exact HB.out)⟩⟩
                  ·rw [if_neg c32] at H
                   exact absurd H (by simp)
                ·rw [if_neg c23] at H
                 exact absurd H (by simp)
               ·rw [if_neg c22] at H
                exact absurd H (by simp)
              ·replace c20 := Bool.eq_false_iff.mpr c20
               subst c20
               have H1 : (if x172000_10 = 2 then (if x3_1.length < 4398046511104 then (boomeranglaw4_Host.l0 kj15 l0 (x3_1 ++ [(⟨x172000_10, wrap64 ((wrap64 (rd l0 (ji6))) - 100), (⟨#[]⟩ : ByteArray)⟩ : S25)]) (wrap64 (x4_1 + 2))) else (none)) else (if x3_1.length < 4398046511104 then (boomeranglaw4_Host.l0 kj15 l0 (x3_1 ++ [(⟨x172000_10, (wrap64 (rd l0 (ji6))), (⟨#[]⟩ : ByteArray)⟩ : S25)]) (wrap64 (x4_1 + 2))) else (none))) = some r := by rw [if_neg (show ¬ (false = true) by decide)] at H; exact H
               clear H
               have H := H1
               clear H1
               by_cases c39 : x172000_10 = 2
               ·rw [if_pos c39] at H
                have c39b0 : (x172000_10 == 2) = true := beq_iff_eq.mpr c39
                have c39b1 : (x172000_10 != 2) = false := bne_eq_false_iff_eq.mpr c39
                clear c39
                by_cases c40 : x3_1.length < 4398046511104
                ·rw [if_pos c40] at H
                 have LMc40 := Aside0.mk c40
                 clear c40
                 obtain ⟨y183, hy183⟩ : ∃ y_ : List (S25), y_ = (x3_1 ++ [(⟨x172000_10, wrap64 ((wrap64 (rd l0 (ji6))) - 100), (⟨#[]⟩ : ByteArray)⟩ : S25)]) := ⟨_, rfl⟩
                 replace H : (boomeranglaw4_Host.l0 kj15 l0 y183 (wrap64 (x4_1 + 2))) = some r := by first | (rw [hy183]; with_reducible exact H) | (have H2_ := (Option.bind_some _ _).symm.trans H; rw [hy183]; with_reducible exact H2_) | (have H2_ := (Option.bind_some _ _).symm.trans H; with_reducible exact H2_) | with_reducible exact H | (rw [hy183]; exact H) | exact H
                 have Ny183 := Aside0.mk hy183
                 clear hy183
                 have H' := Aside0.mk H
                 clear H
                 have hcz41_0 : wc.cell? ⟨gb171, 0, none⟩ = some (.int .i64 x172000_10) := (blk_cell BK171.out 0).trans rfl
                 have hcz41_1 : wc.cell? ⟨gb171, 1, none⟩ = some (.int .i64 (wrap64 (rd l0 (ji6)))) := (blk_cell BK171.out 1).trans rfl
                 have hcz41_2 : wc.cell? ⟨gb171, 2, none⟩ = some (.string (⟨#[]⟩ : ByteArray)) := (blk_cell BK171.out 2).trans rfl
                 have hfz41_0 := blk_frozen BK171.out 0
                 have hfz41_1 := blk_frozen BK171.out 1
                 have hfz41_2 := blk_frozen BK171.out 2
                 go_wp2_with (first | ((with_reducible refine gate_builtin (b := .append) (xs := #[.tmp 61, .tmp 63]) rfl ?_); (try (refine gate_guard (by rfl) ?_; dsimp only)); at_builtin; refine Kd.R_append k25 (w0 := w) w.heap.size rfl (.tmp 61) (.tmp 63) 54 25 (.agg #[(.int .i64 0), (.int .i64 0), (.string ⟨#[]⟩)]) 32 rfl Try.underlying54 info25 rfl (by decide) (by omega) u3 x3_1 (⟨x172000_10, wrap64 ((wrap64 (rd l0 (ji6))) - 100), (⟨#[]⟩ : ByteArray)⟩ : S25) [.int .i64 x172000_10, .int .i64 (wrap64 ((wrap64 (rd l0 (ji6))) - 100)), .string (⟨#[]⟩ : ByteArray)] (fun k_ => k_ ≠ gb171) (fun _ => False) rfl (by first | (go_simp; done) | (go_simp; rfl)) ?aP (fun _ hk => hk.elim) ?aF ?aO ?aB ?aS ?aL ?_; (case aP => exact k25_mkM _ _ _ (⟨x172000_10, wrap64 ((wrap64 (rd l0 (ji6))) - 100), (⟨#[]⟩ : ByteArray)⟩ : S25)); (case aB => exact (by repeat (first | (with_reducible first | exact HB.out | apply below_alloc | apply pw_below_drewN | apply below_drew1 | refine below_set ?_ GE171.out) | exact HB.out))); (case aF => exact (fun k_ hk => Kd.freshB (g := gb171) (o := .cells #[.int .i64 x172000_10, .int .i64 (wrap64 ((wrap64 (rd l0 (ji6))) - 100)), .string (⟨#[]⟩ : ByteArray)] 25 (0, 0)) (by (with_reducible repeat (first | refine blk_drewN ?_ _ | refine blk_drew ?_ | refine blk_alloc ?_ _)); refine blk_put (cs := #[.int .i64 x172000_10, .int .i64 (wrap64 (rd l0 (ji6))), .string (⟨#[]⟩ : ByteArray)]) ?_ 1 _ rfl; (with_reducible repeat (first | refine blk_drewN ?_ _ | refine blk_drew ?_ | refine blk_alloc ?_ _)); exact BK171.out) k_ hk)); (case aO => exact (by (with_reducible repeat (first | apply Kd.R_alloc | apply Kd.R_drewN | apply Kd.R_drew)); exact Kd.R_mono (Kd.R_far (p := ⟨gb171, 1, none⟩) (Kd.R_mono HO_3.out (fun k_ hk => (⟨hk, hk⟩ : _ ∧ k_ ≠ gb171))) (fun _ hk => hk.2) (.int .i64 (wrap64 ((wrap64 (rd l0 (ji6))) - 100)))) (fun _ hk => hk.1))); (case aS => exact (below_size (by repeat (first | (with_reducible first | exact HB.out | apply below_alloc | apply pw_below_drewN | apply below_drew1 | refine below_set ?_ GE171.out) | exact HB.out)))); (case aL => have := LMc40.out; omega); intro v184 w42 ho hb hg hat; rw [← Ny183.out] at ho; have n0_ := Aside0.mk (blk_grown (g := gb171) (o := .cells #[.int .i64 x172000_10, .int .i64 (wrap64 ((wrap64 (rd l0 (ji6))) - 100)), .string (⟨#[]⟩ : ByteArray)] 25 (0, 0)) (by (with_reducible repeat (first | refine blk_drewN ?_ _ | refine blk_drew ?_ | refine blk_alloc ?_ _)); refine blk_put (cs := #[.int .i64 x172000_10, .int .i64 (wrap64 (rd l0 (ji6))), .string (⟨#[]⟩ : ByteArray)]) ?_ 1 _ rfl; (with_reducible repeat (first | refine blk_drewN ?_ _ | refine blk_drew ?_ | refine blk_alloc ?_ _)); exact BK171.out) hg (Kd.R_away HO_3.out (fun _ hk => hk))); have n1_ := Aside0.mk (hb); have n2_ := Aside0.mk (ho); clear BK171; clear HB; clear HO_3; have BK171 := n0_; have HB := n1_; have HO185 := n2_; clear n0_ n1_ n2_; clear ho hb hg hat))
                 go_roundg kj15
                 case measure => have := HK1.out; have := HJ1.out; have := HJ10.out; have := HJ15.out; omega
                 case rel => exact ⟨(y183), (wrap64 (x4_1 + 2)), (by first | rfl | (simp; done) | (simp [*]; done)), H', ⟨by have := HK1.out; have := HJ1.out; have := HJ10.out; have := HJ15.out; omega⟩, ⟨by (with_reducible repeat (first | apply Kd.R_alloc | apply Kd.R_drewN | apply Kd.R_drew)); exact Kd.R_mono HO185.out (fun _ hk => trivial)⟩, ⟨by repeat (first | (with_reducible first | exact HB.out | apply below_alloc | apply pw_below_drewN | apply below_drew1 | refine below_set ?_ GE171.out) | exact HB.out)⟩⟩
                ·rw [if_neg c40] at H
                 exact absurd H (by simp)
               ·rw [if_neg c39] at H
                have c39b0 : (x172000_10 == 2) = false := beq_eq_false_iff_ne.mpr c39
                have c39b1 : (x172000_10 != 2) = true := bne_iff_ne.mpr c39
                by_cases c43 : x3_1.length < 4398046511104
                ·rw [if_pos c43] at H
                 have LMc43 := Aside0.mk c43
                 clear c43
                 obtain ⟨y186, hy186⟩ : ∃ y_ : List (S25), y_ = (x3_1 ++ [(⟨x172000_10, (wrap64 (rd l0 (ji6))), (⟨#[]⟩ : ByteArray)⟩ : S25)]) := ⟨_, rfl⟩
                 replace H : (boomeranglaw4_Host.l0 kj15 l0 y186 (wrap64 (x4_1 + 2))) = some r := by first | (rw [hy186]; with_reducible exact H) | (have H2_ := (Option.bind_some _ _).symm.trans H; rw [hy186]; with_reducible exact H2_) | (have H2_ := (Option.bind_some _ _).symm.trans H; with_reducible exact H2_) | with_reducible exact H | (rw [hy186]; exact H) | exact H
                 have Ny186 := Aside0.mk hy186
                 clear hy186
                 have H' := Aside0.mk H
                 clear H
                 have hcz44_0 : wc.cell? ⟨gb171, 0, none⟩ = some (.int .i64 x172000_10) := (blk_cell BK171.out 0).trans rfl
                 have hcz44_1 : wc.cell? ⟨gb171, 1, none⟩ = some (.int .i64 (wrap64 (rd l0 (ji6)))) := (blk_cell BK171.out 1).trans rfl
                 have hcz44_2 : wc.cell? ⟨gb171, 2, none⟩ = some (.string (⟨#[]⟩ : ByteArray)) := (blk_cell BK171.out 2).trans rfl
                 have hfz44_0 := blk_frozen BK171.out 0
                 have hfz44_1 := blk_frozen BK171.out 1
                 have hfz44_2 := blk_frozen BK171.out 2
                 go_wp2_with (first | ((with_reducible refine gate_builtin (b := .append) (xs := #[.tmp 61, .tmp 63]) rfl ?_); (try (refine gate_guard (by rfl) ?_; dsimp only)); at_builtin; refine Kd.R_append k25 (w0 := w) w.heap.size rfl (.tmp 61) (.tmp 63) 54 25 (.agg #[(.int .i64 0), (.int .i64 0), (.string ⟨#[]⟩)]) 32 rfl Try.underlying54 info25 rfl (by decide) (by omega) u3 x3_1 (⟨x172000_10, (wrap64 (rd l0 (ji6))), (⟨#[]⟩ : ByteArray)⟩ : S25) [.int .i64 x172000_10, .int .i64 (wrap64 (rd l0 (ji6))), .string (⟨#[]⟩ : ByteArray)] (fun k_ => k_ ≠ gb171) (fun _ => False) rfl rfl ?aP (fun _ hk => hk.elim) ?aF ?aO ?aB ?aS ?aL ?_; (case aP => exact k25_mkM _ _ _ (⟨x172000_10, (wrap64 (rd l0 (ji6))), (⟨#[]⟩ : ByteArray)⟩ : S25)); (case aB => exact (by repeat (first | (with_reducible first | exact HB.out | apply below_alloc | apply pw_below_drewN | apply below_drew1 | refine below_set ?_ GE171.out) | exact HB.out))); (case aF => exact (fun k_ hk => Kd.freshB (g := gb171) (o := .cells #[.int .i64 x172000_10, .int .i64 (wrap64 (rd l0 (ji6))), .string (⟨#[]⟩ : ByteArray)] 25 (0, 0)) (by (with_reducible repeat (first | refine blk_drewN ?_ _ | refine blk_drew ?_ | refine blk_alloc ?_ _)); exact BK171.out) k_ hk)); (case aO => exact (by (with_reducible repeat (first | apply Kd.R_alloc | apply Kd.R_drewN | apply Kd.R_drew)); exact HO_3.out)); (case aS => exact (below_size (by repeat (first | (with_reducible first | exact HB.out | apply below_alloc | apply pw_below_drewN | apply below_drew1 | refine below_set ?_ GE171.out) | exact HB.out)))); (case aL => have := LMc43.out; omega); intro v187 w45 ho hb hg hat; rw [← Ny186.out] at ho; have n0_ := Aside0.mk (blk_grown (g := gb171) (o := .cells #[.int .i64 x172000_10, .int .i64 (wrap64 (rd l0 (ji6))), .string (⟨#[]⟩ : ByteArray)] 25 (0, 0)) (by (with_reducible repeat (first | refine blk_drewN ?_ _ | refine blk_drew ?_ | refine blk_alloc ?_ _)); exact BK171.out) hg (Kd.R_away HO_3.out (fun _ hk => hk))); have n1_ := Aside0.mk (hb); have n2_ := Aside0.mk (ho); clear BK171; clear HB; clear HO_3; have BK171 := n0_; have HB := n1_; have HO188 := n2_; clear n0_ n1_ n2_; clear ho hb hg hat))
                 go_roundg kj15
                 case measure => have := HK1.out; have := HJ1.out; have := HJ10.out; have := HJ15.out; omega
                 case rel => exact ⟨(y186), (wrap64 (x4_1 + 2)), (by first | rfl | (simp; done) | (simp [*]; done)), H', ⟨by have := HK1.out; have := HJ1.out; have := HJ10.out; have := HJ15.out; omega⟩, ⟨by (with_reducible repeat (first | apply Kd.R_alloc | apply Kd.R_drewN | apply Kd.R_drew)); exact Kd.R_mono HO188.out (fun _ hk => trivial)⟩, ⟨by repeat (first | (with_reducible first | exact HB.out | apply below_alloc | apply pw_below_drewN | apply below_drew1 | refine below_set ?_ GE171.out) | exact HB.out)⟩⟩
                ·rw [if_neg c43] at H
                 exact absurd H (by simp)
         ·rw [if_neg c10] at H
          exact absurd H (by simp)
        ·rw [if_neg c9] at H
         exact absurd H (by simp)
       ·rw [if_neg c8] at H
        exact absurd H (by simp)
      ·rw [if_neg c7] at H
       exact absurd H (by simp)
     ·replace c5 := Bool.eq_false_iff.mpr c5
      subst c5
      have H1 : (some x3_1) = some r := by rw [if_neg (show ¬ (false = true) by decide)] at H; exact H
      clear H
      have H := H1
      clear H1
      obtain rfl := Option.some.inj H
      go_wp2
      go_ret
      exact ⟨_, by first | rfl | (simp [errW_none, errW_some] <;> rfl) | (simp [*, errW_none, errW_some] <;> rfl), by (with_reducible repeat (first | apply Kd.R_alloc | apply Kd.R_drewN | apply Kd.R_drew)); exact HO_3.out, by repeat (first | (with_reducible first | exact HB.out | apply below_alloc | apply pw_below_drewN | apply below_drew1) | exact HB.out)⟩

end Go.Proofs.Ytmdcpmfanpopgaa.M
