-- Written by a program of this session (wip/tools/mine.sh), out of the translation and hand-given contracts.
import Derived.Test.YtmdcpmfanpopgaaM0
import Derived.Test.YtmdcpmfanpopgaaM3
import Derived.Test.YtmdcpmfanpopgaaM5
namespace Go.Proofs.Ytmdcpmfanpopgaa.M
open Go.RowKit Go.Proofs.YtmdcpmfanpopgaaW.PrintWords Go.Proofs.YtmdcpmfanpopgaaW.PrintLast Go.Proofs.YtmdcpmfanpopgaaW.PrintMore
attribute [local go_sem] max2_int min2_int max_two min_two max_three min_three max_four min_four   -- for this text's walks alone
set_option linter.unusedVariables false
set_option linter.unusedSimpArgs false

/-! ### crc_Sum: function 47: BY HAND -/
/-- What the table has at place i, as numbers. -/
def crcTab : List Int := (List.range 256).map fun i => ((Crc.cell i).toNat : Int)
theorem crcTab_eq : crc_table.f 300 = some crcTab := by decide +kernel
theorem crcTab_length : crcTab.length = 256 := by simp [crcTab]
theorem crcTab_rd (i : Nat) (h : i < 256) : rd crcTab (i : Int) = ((Crc.cell i).toNat : Int) := by
 unfold rd
 simp [crcTab, h]
theorem bits_xor_nat (k : IntKind) (a b : Nat) (hk : k = .u8 ∨ k = .u32) (ha : a < 2 ^ k.bits) (hb : b < 2 ^ k.bits) : Go.bits .xor k (a : Int) (b : Int) = ((a ^^^ b : Nat) : Int) := by
 have hx : a ^^^ b < 2 ^ k.bits := Nat.xor_lt_two_pow ha hb
 unfold Go.bits
 simp only [BitVec.ofInt_natCast, BitVec.toNat_xor, BitVec.toNat_ofNat, Nat.mod_eq_of_lt ha, Nat.mod_eq_of_lt hb]
 rcases hk with rfl | rfl
 ·rw [IntKind.wrap_u8]; have : a ^^^ b < 256 := hx; omega
 ·rw [IntKind.wrap_u32]; have : a ^^^ b < 4294967296 := hx; omega
/-- The sum of bytes, as a number. -/
def crcS (s : ByteArray) : Int := ((Crc.sum s.data.toList).toNat : Int)
def crc_Sum.f (a0 : ByteArray) : Option Int := if a0.size ≤ 9223372036854775807 then some (crcS a0) else none
def crcReg (s : ByteArray) (k : Nat) : Int := ((Crc.reg Crc.full (s.data.toList.take k)).toNat : Int)
theorem crcReg_bd (s : ByteArray) (k : Nat) : 0 ≤ crcReg s k ∧ crcReg s k < 4294967296 := by
 unfold crcReg
 have := (Crc.reg Crc.full (s.data.toList.take k)).isLt
 omega
theorem crcReg_next (s : ByteArray) (k : Nat) (h : k < s.size) (g : Int) (hg : g = (crcReg s k % 256)) :
  Go.bits .xor .u32 (crcReg s k / 256) (rd crcTab (Go.bits .xor .u8 g ((s.data.toList.getD k 0).toNat : Int))) = crcReg s (k + 1) ∧ 0 ≤ Go.bits .xor .u8 g ((s.data.toList.getD k 0).toNat : Int) ∧ Go.bits .xor .u8 g ((s.data.toList.getD k 0).toNat : Int) < 256 := by
 have hl : k < s.data.toList.length := by rw [data_length]; exact h
 have hd : s.data.toList.getD k 0 = s.data.toList[k] := by simp [List.getD_eq_getElem?_getD, List.getElem?_eq_getElem hl]
 have hr : Crc.reg Crc.full (s.data.toList.take (k + 1)) = Crc.byte (Crc.reg Crc.full (s.data.toList.take k)) (s.data.toList.getD k 0) := by
  rw [List.take_succ_eq_append_getElem hl, Crc.reg, List.foldl_append, hd]; rfl
 generalize hn : Crc.reg Crc.full (s.data.toList.take k) = n at hr
 generalize s.data.toList.getD k 0 = c at hr
 have hk : crcReg s k = (n.toNat : Int) := by unfold crcReg; rw [hn]
 have hk1 : crcReg s (k + 1) = ((Crc.byte n c).toNat : Int) := by unfold crcReg; rw [hr]
 rw [hk] at hg ⊢
 rw [hk1, Crc.byte_table]
 subst hg
 have e1 : (n.toNat : Int) % 256 = ((n.toNat % 256 : Nat) : Int) := by omega
 have e2 : (n.toNat : Int) / 256 = ((n.toNat / 256 : Nat) : Int) := by omega
 have hb : n.toNat % 256 < 2 ^ IntKind.u8.bits := Nat.mod_lt _ (by decide)
 have hc : c.toNat < 2 ^ IntKind.u8.bits := c.toNat_lt
 have hx : (n.toNat % 256) ^^^ c.toNat < 256 := Nat.xor_lt_two_pow hb hc
 have hn32 := n.isLt
 rw [e1, e2, bits_xor_nat .u8 _ _ (.inl rfl) hb hc, crcTab_rd _ hx, bits_xor_nat .u32 (n.toNat / 256) (Crc.cell (n.toNat % 256 ^^^ c.toNat)).toNat (.inr rfl) (show _ < 4294967296 by omega) (Crc.cell (n.toNat % 256 ^^^ c.toNat)).isLt]
 refine ⟨?_, by omega, by omega⟩
 rw [BitVec.toNat_xor, BitVec.toNat_ushiftRight, Nat.shiftRight_eq_div_pow]
theorem crcS_end (s : ByteArray) : Go.bits .xor .u32 4294967295 (crcReg s s.size) = crcS s := by
 have e : s.data.toList.take s.size = s.data.toList := List.take_of_length_le (by rw [data_length]; omega)
 unfold crcReg crcS Crc.sum
 rw [e, BitVec.toNat_xor]
 exact bits_xor_nat .u32 4294967295 _ (.inr rfl) (by decide) (Crc.reg Crc.full s.data.toList).isLt
theorem crcReg_zero (s : ByteArray) : crcReg s 0 = 4294967295 := rfl
set_option maxHeartbeats 4000000 in
set_option maxRecDepth 100000 in
theorem crc_Sum.calls (a0 : ByteArray) (r : Int) (w : World) (h : crc_Sum.f a0 = some r) :
  Calls Try.prog 47 #[.string a0] w fun e w' => e = .returned (.int .u32 r) ∧ Below w.heap.size w w' := by
 unfold crc_Sum.f at h
 by_cases hs : a0.size ≤ 9223372036854775807
 ·rw [if_pos hs] at h
  have HR := Lib.hid (Option.some.inj h)
  clear h
  have kb := fun W => print_bytes (P := Try.prog) 9 50 5 Try.underlying9 Try.underlying50 Try.underlying5 a0 W
  go_enter Try.func47, Try.ntmps47
  go_wp2_with (first | (go_at_call 49; (with_reducible refine (crc_table.calls 300 crcTab _ crcTab_eq).mono ?_); rintro e w1 ⟨v1, rfl, hR, hB⟩; obtain ⟨g, cap, hv, hg, hgl, cells, hcells⟩ := Kd.R_form hR (by rw [crcTab_length]; omega); rw [crcTab_length] at hv; subst hv; have HT := Lib.hid hR; have HC := Lib.hid hcells; have HB := Lib.hid hB; clear hR hcells hB))
  have F1 : ∀ j : Nat, j < a0.size → (Lib.bytesWorld w1 5 a0).cell? ⟨w1.heap.size, j, none⟩ = some (.int .u8 ((a0.data.toList.getD j 0).toNat : Int)) := fun j hj => Lib.bytesWorld_cell w1 5 a0 j hj
  have F2 : ∀ i : Int, 0 ≤ i → i < 256 → (Lib.bytesWorld w1 5 a0).cell? ⟨g, i.toNat, none⟩ = some (.int .u32 (rd crcTab i)) := fun i h0 h1 =>
   (Lib.bytesWorld_old w1 5 a0 ⟨g, i.toNat, none⟩ hgl).trans (Kd.R_celln 0 HT.out i h0 h1).1
  have F3 := Lib.hid (bytes_below HB.out HB.out.size 5 a0)
  generalize Lib.bytesWorld w1 5 a0 = W at *
  have F1' := Lib.hid F1
  have F2' := Lib.hid F2
  clear F1 F2 HT HC HB kb
  go_loop [4, 11] (fun n i => ∃ x : Int, 0 ≤ x ∧ x ≤ a0.size ∧ i = .int .i64 x ∧ n = .int .u32 (crcReg a0 x.toNat)) (fun _ i => a0.size - (intOf i).toNat)
  case atStart => exact ⟨0, by omega, by omega, rfl, rfl⟩
  case round =>
   obtain ⟨x, hx0, hx1, rfl, rfl⟩ := hrel
   by_cases hlt : x < (a0.size : Int)
   ·have hk : x.toNat < a0.size := by omega
    have N := crcReg_next a0 x.toNat hk _ rfl
    have bd := crcReg_bd a0 x.toNat
    have c1 := F1'.out x.toNat hk
    generalize ((a0.data.toList.getD x.toNat 0).toNat : Int) = c at N c1
    have e1 : x.toNat + 1 = (x + 1).toNat := by omega
    rw [e1] at N
    have c2 := F2'.out _ N.2.1 N.2.2
    have NN := Lib.hid N.1
    obtain ⟨i0, i1⟩ := N.2
    generalize crcReg a0 x.toNat = n at *
    have d0 : decide (x < (a0.size : Int)) = true := decide_eq_true hlt
    go_wp2
    go_round
    case rel => exact ⟨x + 1, by omega, by omega, rfl, rfl⟩
    case measure => simp [intOf]; omega
   ·have d0 : decide (x < (a0.size : Int)) = false := decide_eq_false hlt
    have e : crcReg a0 x.toNat = crcReg a0 a0.size := by congr 1; omega
    have HE := Lib.hid ((congrArg (Go.bits .xor .u32 4294967295) e).trans ((crcS_end a0).trans HR.out))
    clear e
    go_wp2
    go_ret
    exact ⟨by have := HE.out; rw [← this]; rfl, F3.out⟩
 ·rw [if_neg hs] at h
  exact absurd h (by simp)


/-! ### crc_Put: function 43 -/
def crc_Put.f (a0 : ByteArray) : Option (ByteArray) := (crc_Sum.f a0).bind fun t125 => ((some (([(t125) % 256, (t125 / 256) % 256, (t125 / 65536) % 256, (t125 / 16777216) % 256] : List Int) : List Int)).bind fun y126 => (if a0.size + (strOfNums y126).size ≤ 9223372036854775807 then (some (a0 ++ (strOfNums y126))) else (none)))
set_option maxHeartbeats 8000000 in
set_option maxRecDepth 100000 in
theorem crc_Put.calls (a0 : ByteArray) (r : ByteArray) (w : World) (h : crc_Put.f a0 = some r) :
  Calls Try.prog 43 #[.string a0] w fun e w' => e = .returned (.string r) ∧ Below w.heap.size w w' := by
 have HB := Aside0.mk (Below.refl w.heap.size w)
 have H : ((crc_Sum.f a0).bind fun t125 => ((some (([(t125) % 256, (t125 / 256) % 256, (t125 / 65536) % 256, (t125 / 16777216) % 256] : List Int) : List Int)).bind fun y126 => (if a0.size + (strOfNums y126).size ≤ 9223372036854775807 then (some (a0 ++ (strOfNums y126))) else (none)))) = some r := h
 clear h
 replace H := Option.bind_eq_some_iff.mp H
 obtain ⟨t125, A20, H⟩ := H
 replace H : ((some (([(t125) % 256, (t125 / 256) % 256, (t125 / 65536) % 256, (t125 / 16777216) % 256] : List Int) : List Int)).bind fun y126 => (if a0.size + (strOfNums y126).size ≤ 9223372036854775807 then (some (a0 ++ (strOfNums y126))) else (none))) = some r := H
 have A2 := Aside0.mk A20
 clear A20
 obtain ⟨y126, hy126⟩ : ∃ y_ : List Int, y_ = (([(t125) % 256, (t125 / 256) % 256, (t125 / 65536) % 256, (t125 / 16777216) % 256] : List Int)) := ⟨_, rfl⟩
 replace H : (if a0.size + (strOfNums y126).size ≤ 9223372036854775807 then (some (a0 ++ (strOfNums y126))) else (none)) = some r := by first | (rw [hy126]; with_reducible exact H) | (have H2_ := (Option.bind_some _ _).symm.trans H; rw [hy126]; with_reducible exact H2_) | (have H2_ := (Option.bind_some _ _).symm.trans H; with_reducible exact H2_) | with_reducible exact H | (rw [hy126]; exact H) | exact H
 have Ny126 := Aside0.mk hy126
 clear hy126
 by_cases c3 : a0.size + (strOfNums y126).size ≤ 9223372036854775807
 ·rw [if_pos c3] at H
  have c3b0 := eq_true c3
  have c3b1 : decide (a0.size + (strOfNums y126).size ≤ 9223372036854775807) = true := decide_eq_true c3
  try have c3b2 : (9223372036854775807 < a0.size + (strOfNums y126).size) = False := eq_false (Nat.not_lt.2 c3)
  obtain rfl := Option.some.inj H
  go_enter Try.func43, Try.ntmps43
  go_wp2_with (first | ((with_reducible refine gate_callee (f := 47) rfl ?_); refine goesL_ (some 5) rfl rfl Try.func47 (by kernel_rfl) rfl #[.string a0] rfl (by (try simp only [List.map_toArray, List.map_cons, List.map_nil]); first | done | rfl | (simp only [List.length_drop, List.length_take]; rfl)) ?_; (with_reducible refine (crc_Sum.calls a0 t125 _ A2.out).mono ?_); rintro e w4 ⟨rfl, hb⟩; refine ⟨_, rfl, ?_⟩; have n0_ := Aside0.mk (below_step (by repeat (first | (with_reducible first | exact HB.out | apply below_alloc | apply pw_below_drewN | apply below_drew1) | exact HB.out)) hb); clear HB; have HB := n0_; clear n0_; (try clear hb); (try clear hb2); (try clear hk); (try clear hi)) | ((with_reducible refine gate_dst (N := 18) rfl ?_); refine Kd.R_lit (Kd.int .u8) _ 5 ?hg (N := 18) ?hd (xs := ([(t125) % 256, (t125 / 256) % 256, (t125 / 65536) % 256, (t125 / 16777216) % 256] : List Int)) (inner := [.int .u8 ((t125) % 256), .int .u8 ((t125 / 256) % 256), .int .u8 ((t125 / 65536) % 256), .int .u8 ((t125 / 16777216) % 256)]) (ok := fun _ => True) (okp := fun _ => True) ?hr ?hp (fun _ hk => hk) trivial (Below.refl _ _) (Nat.le_refl _) (by simp) ?_; (case hd => rfl); (case hg => rfl); (case hr => first | (go_simp; done) | (go_simp; rfl)); (case hp => exact (Reps.one (show Kd.M (Kd.int .u8) _ _ _ ((t125) % 256) [.int .u8 ((t125) % 256)] from rfl) (Reps.one (show Kd.M (Kd.int .u8) _ _ _ ((t125 / 256) % 256) [.int .u8 ((t125 / 256) % 256)] from rfl) (Reps.one (show Kd.M (Kd.int .u8) _ _ _ ((t125 / 65536) % 256) [.int .u8 ((t125 / 65536) % 256)] from rfl) (Reps.one (show Kd.M (Kd.int .u8) _ _ _ ((t125 / 16777216) % 256) [.int .u8 ((t125 / 16777216) % 256)] from rfl) (Reps.none _ _)))))); intro v127 w5 ho6 hb hg_ hnew_; clear hg_ hnew_; (first | rw [← Ny126.out] at ho6 | (simp only [Int.reduceToNat] at ho6; rw [← Ny126.out] at ho6)); have n0_ := Aside0.mk (Kd.R_lower ho6 (below_size (by repeat (first | (with_reducible first | exact HB.out | apply below_alloc | apply pw_below_drewN | apply below_drew1) | exact HB.out)))); have n1_ := Aside0.mk (below_step (by repeat (first | (with_reducible first | exact HB.out | apply below_alloc | apply pw_below_drewN | apply below_drew1) | exact HB.out)) hb); clear HB; have HO128 := n0_; have HB := n1_; clear n0_ n1_; clear hb ho6; have hcv7 := own_string (P := Try.prog) Try.underlying50 Try.underlying5 Try.underlying9 (Kd.own_of_R HO128.out)))
  go_ret
  exact ⟨by first | rfl | (simp [errW_none, errW_some] <;> rfl) | (simp [*, errW_none, errW_some] <;> rfl), by repeat (first | (with_reducible first | exact HB.out | apply below_alloc | apply pw_below_drewN | apply below_drew1) | exact HB.out)⟩
 ·rw [if_neg c3] at H
  exact absurd H (by simp)

/-! ### frame_Put: function 33 -/
def frame_Put.f (k : Nat) (a0 : ByteArray) : Option (ByteArray × Int) := if (a0.size : Int) > 4096 then (some ((⟨#[]⟩ : ByteArray), 6)) else ((vint_Put.f k (a0.size : Int)).bind fun t129 => ((crc_Put.f a0).bind fun t130 => (if t129.size + t130.size ≤ 9223372036854775807 then (some (t129 ++ t130, 0)) else (none))))
theorem frame_Put.mono : ∀ a0 k, LeO (frame_Put.f k a0) (frame_Put.f (k + 1) a0) := by
 intro a0 k
 unfold frame_Put.f
 repeat' first
   | (with_reducible exact vint_Put.mono _ _)
   | (with_reducible exact LeO.refl _)
   | (with_reducible exact LeO.none _)
   | (with_reducible refine LeO.ite ?_ ?_)
   | (with_reducible refine LeO.bind ?_ (fun _ => ?_))
   | exact vint_Put.mono _ _
   | exact LeO.none _
   | refine LeO.ite ?_ ?_
   | refine LeO.bind ?_ (fun _ => ?_)
set_option maxHeartbeats 8000000 in
set_option maxRecDepth 100000 in
theorem frame_Put.calls (k : Nat) (a0 : ByteArray) (r1 : ByteArray) (r2 : Int) (w : World) (h : frame_Put.f k a0 = some (r1, r2)) :
  Calls Try.prog 33 #[.string a0] w fun e w' => e = .returned (.tuple #[.string r1, .int .i64 r2]) ∧ Below w.heap.size w w' := by
 have HB := Aside0.mk (Below.refl w.heap.size w)
 have H : (if (a0.size : Int) > 4096 then (some ((⟨#[]⟩ : ByteArray), 6)) else ((vint_Put.f k (a0.size : Int)).bind fun t129 => ((crc_Put.f a0).bind fun t130 => (if t129.size + t130.size ≤ 9223372036854775807 then (some (t129 ++ t130, 0)) else (none))))) = some (r1, r2) := h
 clear h
 by_cases c2 : (a0.size : Int) > 4096
 ·rw [if_pos c2] at H
  have c2b0 : decide (4096 < (a0.size : Int)) = true := decide_eq_true c2
  have c2b1 : decide (4096 < a0.size) = true := decide_eq_true (by omega)
  clear c2
  simp only [Option.some.injEq, Prod.mk.injEq] at H
  obtain ⟨rfl, rfl⟩ := H
  go_enter Try.func33, Try.ntmps33
  go_wp2
  go_ret2
  exact ⟨by first | rfl | (simp [errW_none, errW_some] <;> rfl) | (simp [*, errW_none, errW_some] <;> rfl), by repeat (first | (with_reducible first | exact HB.out | apply below_alloc | apply pw_below_drewN | apply below_drew1) | exact HB.out)⟩
 ·rw [if_neg c2] at H
  have c2b0 : decide (4096 < (a0.size : Int)) = false := decide_eq_false c2
  have c2b1 : decide (4096 < a0.size) = false := decide_eq_false (by omega)
  clear c2
  replace H := Option.bind_eq_some_iff.mp H
  obtain ⟨t129, A30, H⟩ := H
  replace H : ((crc_Put.f a0).bind fun t130 => (if t129.size + t130.size ≤ 9223372036854775807 then (some (t129 ++ t130, 0)) else (none))) = some (r1, r2) := H
  have A3 := Aside0.mk A30
  clear A30
  replace H := Option.bind_eq_some_iff.mp H
  obtain ⟨t130, A40, H⟩ := H
  replace H : (if t129.size + t130.size ≤ 9223372036854775807 then (some (t129 ++ t130, 0)) else (none)) = some (r1, r2) := H
  have A4 := Aside0.mk A40
  clear A40
  by_cases c5 : t129.size + t130.size ≤ 9223372036854775807
  ·rw [if_pos c5] at H
   have c5b0 := eq_true c5
   have c5b1 : decide (t129.size + t130.size ≤ 9223372036854775807) = true := decide_eq_true c5
   try have c5b2 : (9223372036854775807 < t129.size + t130.size) = False := eq_false (Nat.not_lt.2 c5)
   simp only [Option.some.injEq, Prod.mk.injEq] at H
   obtain ⟨rfl, rfl⟩ := H
   go_enter Try.func33, Try.ntmps33
   go_wp2_with (first | ((with_reducible refine gate_callee (f := 26) rfl ?_); refine goesL_ (some 9) rfl rfl Try.func26 (by kernel_rfl) rfl #[.int .i64 (a0.size : Int)] rfl (by (try simp only [List.map_toArray, List.map_cons, List.map_nil]); first | done | rfl | (simp only [List.length_drop, List.length_take]; rfl)) ?_; (with_reducible refine (vint_Put.calls k (a0.size : Int) t129 _ A3.out).mono ?_); rintro e w6 ⟨rfl, hb⟩; refine ⟨_, rfl, ?_⟩; have n0_ := Aside0.mk (below_step (by repeat (first | (with_reducible first | exact HB.out | apply below_alloc | apply pw_below_drewN | apply below_drew1) | exact HB.out)) hb); clear HB; have HB := n0_; clear n0_; (try clear hb); (try clear hb2); (try clear hk); (try clear hi)) | ((with_reducible refine gate_callee (f := 43) rfl ?_); refine goesL_ (some 11) rfl rfl Try.func43 (by kernel_rfl) rfl #[.string a0] rfl (by (try simp only [List.map_toArray, List.map_cons, List.map_nil]); first | done | rfl | (simp only [List.length_drop, List.length_take]; rfl)) ?_; (with_reducible refine (crc_Put.calls a0 t130 _ A4.out).mono ?_); rintro e w7 ⟨rfl, hb⟩; refine ⟨_, rfl, ?_⟩; have n0_ := Aside0.mk (below_step (by repeat (first | (with_reducible first | exact HB.out | apply below_alloc | apply pw_below_drewN | apply below_drew1) | exact HB.out)) hb); clear HB; have HB := n0_; clear n0_; (try clear hb); (try clear hb2); (try clear hk); (try clear hi)))
   go_ret2
   exact ⟨by first | rfl | (simp [errW_none, errW_some] <;> rfl) | (simp [*, errW_none, errW_some] <;> rfl), by repeat (first | (with_reducible first | exact HB.out | apply below_alloc | apply pw_below_drewN | apply below_drew1) | exact HB.out)⟩
  ·rw [if_neg c5] at H
   exact absurd H (by simp)

end Go.Proofs.Ytmdcpmfanpopgaa.M
