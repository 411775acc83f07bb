-- Written by a program of this session (wip/tools/mine.sh), out of the translation and hand-given contracts.
import Derived.Test.YthhigjfkekdmiaaM0
import Derived.Test.YthhigjfkekdmiaaM1
namespace Go.Proofs.Ythhigjfkekdmiaa.M
open Go.RowKit Go.Proofs.YthhigjfkekdmiaaW.PrintWords Go.Proofs.YthhigjfkekdmiaaW.PrintLast Go.Proofs.YthhigjfkekdmiaaW.PrintMore
attribute [local go_sem] max2_int min2_int max_two min_two max_three min_three max_four min_four   -- for this text's walks alone
set_option linter.unusedVariables false
set_option linter.unusedSimpArgs false

/-! ### crc_Sum: function 12: BY HAND -/
/-- What the table has at place i, as numbers. -/
def crcTab : List Int := (List.range 256).map fun i => ((Crc.cell i).toNat : Int)
theorem crcTab_eq : crc_table.f 300 = some crcTab := by decide +kernel
theorem crcTab_length : crcTab.length = 256 := by simp [crcTab]
theorem crcTab_rd (i : Nat) (h : i < 256) : rd crcTab (i : Int) = ((Crc.cell i).toNat : Int) := by
 unfold rd
 simp [crcTab, h]
theorem bits_xor_nat (k : IntKind) (a b : Nat) (hk : k = .u8 ∨ k = .u32) (ha : a < 2 ^ k.bits) (hb : b < 2 ^ k.bits) : Go.bits .xor k (a : Int) (b : Int) = ((a ^^^ b : Nat) : Int) := by
 have hx : a ^^^ b < 2 ^ k.bits := Nat.xor_lt_two_pow ha hb
 unfold Go.bits
 simp only [BitVec.ofInt_natCast, BitVec.toNat_xor, BitVec.toNat_ofNat, Nat.mod_eq_of_lt ha, Nat.mod_eq_of_lt hb]
 rcases hk with rfl | rfl
 ·rw [IntKind.wrap_u8]; have : a ^^^ b < 256 := hx; omega
 ·rw [IntKind.wrap_u32]; have : a ^^^ b < 4294967296 := hx; omega
/-- The sum of bytes, as a number. -/
def crcS (s : ByteArray) : Int := ((Crc.sum s.data.toList).toNat : Int)
def crc_Sum.f (a0 : ByteArray) : Option Int := if a0.size ≤ 9223372036854775807 then some (crcS a0) else none
def crcReg (s : ByteArray) (k : Nat) : Int := ((Crc.reg Crc.full (s.data.toList.take k)).toNat : Int)
theorem crcReg_bd (s : ByteArray) (k : Nat) : 0 ≤ crcReg s k ∧ crcReg s k < 4294967296 := by
 unfold crcReg
 have := (Crc.reg Crc.full (s.data.toList.take k)).isLt
 omega
theorem crcReg_next (s : ByteArray) (k : Nat) (h : k < s.size) (g : Int) (hg : g = (crcReg s k % 256)) :
  Go.bits .xor .u32 (crcReg s k / 256) (rd crcTab (Go.bits .xor .u8 g ((s.data.toList.getD k 0).toNat : Int))) = crcReg s (k + 1) ∧ 0 ≤ Go.bits .xor .u8 g ((s.data.toList.getD k 0).toNat : Int) ∧ Go.bits .xor .u8 g ((s.data.toList.getD k 0).toNat : Int) < 256 := by
 have hl : k < s.data.toList.length := by rw [data_length]; exact h
 have hd : s.data.toList.getD k 0 = s.data.toList[k] := by simp [List.getD_eq_getElem?_getD, List.getElem?_eq_getElem hl]
 have hr : Crc.reg Crc.full (s.data.toList.take (k + 1)) = Crc.byte (Crc.reg Crc.full (s.data.toList.take k)) (s.data.toList.getD k 0) := by
  rw [List.take_succ_eq_append_getElem hl, Crc.reg, List.foldl_append, hd]; rfl
 generalize hn : Crc.reg Crc.full (s.data.toList.take k) = n at hr
 generalize s.data.toList.getD k 0 = c at hr
 have hk : crcReg s k = (n.toNat : Int) := by unfold crcReg; rw [hn]
 have hk1 : crcReg s (k + 1) = ((Crc.byte n c).toNat : Int) := by unfold crcReg; rw [hr]
 rw [hk] at hg ⊢
 rw [hk1, Crc.byte_table]
 subst hg
 have e1 : (n.toNat : Int) % 256 = ((n.toNat % 256 : Nat) : Int) := by omega
 have e2 : (n.toNat : Int) / 256 = ((n.toNat / 256 : Nat) : Int) := by omega
 have hb : n.toNat % 256 < 2 ^ IntKind.u8.bits := Nat.mod_lt _ (by decide)
 have hc : c.toNat < 2 ^ IntKind.u8.bits := c.toNat_lt
 have hx : (n.toNat % 256) ^^^ c.toNat < 256 := Nat.xor_lt_two_pow hb hc
 have hn32 := n.isLt
 rw [e1, e2, bits_xor_nat .u8 _ _ (.inl rfl) hb hc, crcTab_rd _ hx, bits_xor_nat .u32 (n.toNat / 256) (Crc.cell (n.toNat % 256 ^^^ c.toNat)).toNat (.inr rfl) (show _ < 4294967296 by omega) (Crc.cell (n.toNat % 256 ^^^ c.toNat)).isLt]
 refine ⟨?_, by omega, by omega⟩
 rw [BitVec.toNat_xor, BitVec.toNat_ushiftRight, Nat.shiftRight_eq_div_pow]
theorem crcS_end (s : ByteArray) : Go.bits .xor .u32 4294967295 (crcReg s s.size) = crcS s := by
 have e : s.data.toList.take s.size = s.data.toList := List.take_of_length_le (by rw [data_length]; omega)
 unfold crcReg crcS Crc.sum
 rw [e, BitVec.toNat_xor]
 exact bits_xor_nat .u32 4294967295 _ (.inr rfl) (by decide) (Crc.reg Crc.full s.data.toList).isLt
theorem crcReg_zero (s : ByteArray) : crcReg s 0 = 4294967295 := rfl
set_option maxHeartbeats 4000000 in
set_option maxRecDepth 100000 in
theorem crc_Sum.calls (a0 : ByteArray) (r : Int) (w : World) (h : crc_Sum.f a0 = some r) :
  Calls Try.prog 12 #[.string a0] w fun e w' => e = .returned (.int .u32 r) ∧ Below w.heap.size w w' := by
 unfold crc_Sum.f at h
 by_cases hs : a0.size ≤ 9223372036854775807
 ·rw [if_pos hs] at h
  have HR := Lib.hid (Option.some.inj h)
  clear h
  have kb := fun W => print_bytes (P := Try.prog) 9 22 5 Try.underlying9 Try.underlying22 Try.underlying5 a0 W
  go_enter Try.func12, Try.ntmps12
  go_wp2_with (first | (go_at_call 28; (with_reducible refine (crc_table.calls 300 crcTab _ crcTab_eq).mono ?_); rintro e w1 ⟨v1, rfl, hR, hB⟩; obtain ⟨g, cap, hv, hg, hgl, cells, hcells⟩ := Kd.R_form hR (by rw [crcTab_length]; omega); rw [crcTab_length] at hv; subst hv; have HT := Lib.hid hR; have HC := Lib.hid hcells; have HB := Lib.hid hB; clear hR hcells hB))
  have F1 : ∀ j : Nat, j < a0.size → (Lib.bytesWorld w1 5 a0).cell? ⟨w1.heap.size, j, none⟩ = some (.int .u8 ((a0.data.toList.getD j 0).toNat : Int)) := fun j hj => Lib.bytesWorld_cell w1 5 a0 j hj
  have F2 : ∀ i : Int, 0 ≤ i → i < 256 → (Lib.bytesWorld w1 5 a0).cell? ⟨g, i.toNat, none⟩ = some (.int .u32 (rd crcTab i)) := fun i h0 h1 =>
   (Lib.bytesWorld_old w1 5 a0 ⟨g, i.toNat, none⟩ hgl).trans (Kd.R_celln 0 HT.out i h0 h1).1
  have F3 := Lib.hid (bytes_below HB.out HB.out.size 5 a0)
  generalize Lib.bytesWorld w1 5 a0 = W at *
  have F1' := Lib.hid F1
  have F2' := Lib.hid F2
  clear F1 F2 HT HC HB kb
  go_loop [4, 11] (fun n i => ∃ x : Int, 0 ≤ x ∧ x ≤ a0.size ∧ i = .int .i64 x ∧ n = .int .u32 (crcReg a0 x.toNat)) (fun _ i => a0.size - (intOf i).toNat)
  case atStart => exact ⟨0, by omega, by omega, rfl, rfl⟩
  case round =>
   obtain ⟨x, hx0, hx1, rfl, rfl⟩ := hrel
   by_cases hlt : x < (a0.size : Int)
   ·have hk : x.toNat < a0.size := by omega
    have N := crcReg_next a0 x.toNat hk _ rfl
    have bd := crcReg_bd a0 x.toNat
    have c1 := F1'.out x.toNat hk
    generalize ((a0.data.toList.getD x.toNat 0).toNat : Int) = c at N c1
    have e1 : x.toNat + 1 = (x + 1).toNat := by omega
    rw [e1] at N
    have c2 := F2'.out _ N.2.1 N.2.2
    have NN := Lib.hid N.1
    obtain ⟨i0, i1⟩ := N.2
    generalize crcReg a0 x.toNat = n at *
    have d0 : decide (x < (a0.size : Int)) = true := decide_eq_true hlt
    go_wp2
    go_round
    case rel => exact ⟨x + 1, by omega, by omega, rfl, rfl⟩
    case measure => simp [intOf]; omega
   ·have d0 : decide (x < (a0.size : Int)) = false := decide_eq_false hlt
    have e : crcReg a0 x.toNat = crcReg a0 a0.size := by congr 1; omega
    have HE := Lib.hid ((congrArg (Go.bits .xor .u32 4294967295) e).trans ((crcS_end a0).trans HR.out))
    clear e
    go_wp2
    go_ret
    exact ⟨by have := HE.out; rw [← this]; rfl, F3.out⟩
 ·rw [if_neg hs] at h
  exact absurd h (by simp)


/-! ### boomeranglaw2_awake: function 13 -/
def boomeranglaw2_awake.f  : Option (Bool) := (crc_Sum.f (⟨#[]⟩ : ByteArray)).bind fun t109 => (if t109 = 0 then ((crc_Sum.f (⟨#[49, 50, 51, 52, 53, 54, 55, 56, 57]⟩ : ByteArray)).bind fun t110 => (some (t110 == 3808858755))) else (some false))
set_option maxHeartbeats 8000000 in
set_option maxRecDepth 100000 in
theorem boomeranglaw2_awake.calls  (r : Bool) (w : World) (h : boomeranglaw2_awake.f  = some r) :
  Calls Try.prog 13 #[] w fun e w' => e = .returned (.bool r) ∧ Below w.heap.size w w' := by
 have HB := Aside0.mk (Below.refl w.heap.size w)
 have H : ((crc_Sum.f (⟨#[]⟩ : ByteArray)).bind fun t109 => (if t109 = 0 then ((crc_Sum.f (⟨#[49, 50, 51, 52, 53, 54, 55, 56, 57]⟩ : ByteArray)).bind fun t110 => (some (t110 == 3808858755))) else (some false))) = some r := h
 clear h
 replace H := Option.bind_eq_some_iff.mp H
 obtain ⟨t109, A10, H⟩ := H
 replace H : (if t109 = 0 then ((crc_Sum.f (⟨#[49, 50, 51, 52, 53, 54, 55, 56, 57]⟩ : ByteArray)).bind fun t110 => (some (t110 == 3808858755))) else (some false)) = some r := H
 have A1 := Aside0.mk A10
 clear A10
 by_cases c2 : t109 = 0
 ·rw [if_pos c2] at H
  have c2b0 : (t109 == 0) = true := beq_iff_eq.mpr c2
  have c2b1 : (t109 != 0) = false := bne_eq_false_iff_eq.mpr c2
  clear c2
  replace H := Option.bind_eq_some_iff.mp H
  obtain ⟨t110, A30, H⟩ := H
  (try (have zc2b0_t110 : (t110 == 0) = true := by rw [← Option.some.inj (A1.out.symm.trans A30)]; exact c2b0))
  (try (have yc2b0_t110 : (t110 != 0) = false := by have h_ := zc2b0_t110; simpa using h_))
  replace H : (some (t110 == 3808858755)) = some r := H
  have A3 := Aside0.mk A30
  clear A30
  obtain rfl := Option.some.inj H
  go_enter Try.func13, Try.ntmps13
  go_wp2_with (first | ((with_reducible refine gate_callee (f := 12) rfl ?_); refine goesL_ (some 1) rfl rfl Try.func12 (by kernel_rfl) rfl #[.string (⟨#[]⟩ : ByteArray)] rfl (by (try simp only [List.map_toArray, List.map_cons, List.map_nil]); first | done | rfl | (simp only [List.length_drop, List.length_take]; rfl)) ?_; (with_reducible refine (crc_Sum.calls (⟨#[]⟩ : ByteArray) t109 _ A1.out).mono ?_); rintro e w4 ⟨rfl, hb⟩; refine ⟨_, rfl, ?_⟩; have n0_ := Aside0.mk (below_step (by repeat (first | (with_reducible first | exact HB.out | apply below_alloc | apply pw_below_drewN | apply below_drew1) | exact HB.out)) hb); clear HB; have HB := n0_; clear n0_; (try clear hb); (try clear hb2); (try clear hk); (try clear hi)) | (go_at_call 12; (with_reducible refine (crc_Sum.calls (⟨#[49, 50, 51, 52, 53, 54, 55, 56, 57]⟩ : ByteArray) t110 _ A3.out).mono ?_); rintro e w5 ⟨rfl, hb⟩; have n0_ := Aside0.mk (below_step (by repeat (first | (with_reducible first | exact HB.out | apply below_alloc | apply pw_below_drewN | apply below_drew1) | exact HB.out)) hb); clear HB; have HB := n0_; clear n0_; (try clear hb); (try clear hb2); (try clear hk); (try clear hi)))
  go_ret
  exact ⟨by first | rfl | (simp [errW_none, errW_some] <;> rfl) | (simp [*, errW_none, errW_some] <;> rfl), by repeat (first | (with_reducible first | exact HB.out | apply below_alloc | apply pw_below_drewN | apply below_drew1) | exact HB.out)⟩
 ·rw [if_neg c2] at H
  have c2b0 : (t109 == 0) = false := beq_eq_false_iff_ne.mpr c2
  have c2b1 : (t109 != 0) = true := bne_iff_ne.mpr c2
  obtain rfl := Option.some.inj H
  go_enter Try.func13, Try.ntmps13
  go_wp2_with (first | ((with_reducible refine gate_callee (f := 12) rfl ?_); refine goesL_ (some 1) rfl rfl Try.func12 (by kernel_rfl) rfl #[.string (⟨#[]⟩ : ByteArray)] rfl (by (try simp only [List.map_toArray, List.map_cons, List.map_nil]); first | done | rfl | (simp only [List.length_drop, List.length_take]; rfl)) ?_; (with_reducible refine (crc_Sum.calls (⟨#[]⟩ : ByteArray) t109 _ A1.out).mono ?_); rintro e w6 ⟨rfl, hb⟩; refine ⟨_, rfl, ?_⟩; have n0_ := Aside0.mk (below_step (by repeat (first | (with_reducible first | exact HB.out | apply below_alloc | apply pw_below_drewN | apply below_drew1) | exact HB.out)) hb); clear HB; have HB := n0_; clear n0_; (try clear hb); (try clear hb2); (try clear hk); (try clear hi)))
  go_ret
  exact ⟨by first | rfl | (simp [errW_none, errW_some] <;> rfl) | (simp [*, errW_none, errW_some] <;> rfl), by repeat (first | (with_reducible first | exact HB.out | apply below_alloc | apply pw_below_drewN | apply below_drew1) | exact HB.out)⟩

end Go.Proofs.Ythhigjfkekdmiaa.M
