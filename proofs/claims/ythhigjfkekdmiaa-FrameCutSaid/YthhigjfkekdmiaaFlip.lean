/- Bits side by side turned in a row of bytes, one a round, as the statements turn them; what such a text's sum says. -/
import Derived.Test.YthhigjfkekdmiaaCrcB
set_option linter.unusedSimpArgs false
set_option linter.unusedVariables false
namespace Go.Proofs.Ythhigjfkekdmiaa.B
open Go.RowKit Go.Proofs.Ythhigjfkekdmiaa Go.Proofs.Ythhigjfkekdmiaa.M Go.Proofs.YthhigjfkekdmiaaW.PrintWords Go.Proofs.YthhigjfkekdmiaaW.PrintLast Go.Proofs.YthhigjfkekdmiaaW.PrintMore

theorem flip_val (v m i t : Nat) (hv : v < 256) (hm : m < 4294967296) (hi : i < 32) :
    Go.bits .xor .u8 (v : Int) (shl .u8 ((Go.bits .and .u32 (shr .u32 (m : Int) (i : Int)) 1) % 256) (Int.tmod (t : Int) 8)) = ((v ^^^ (if m.testBit i then 2 ^ (t % 8) else 0) : Nat) : Int) := by
  have h1 : shr .u32 (m : Int) (i : Int) = ((m / 2 ^ i : Nat) : Int) := by
    unfold shr
    have : min (i : Int).toNat IntKind.u32.bits = i := by
      have e : IntKind.u32.bits = 32 := rfl
      rw [e]; omega
    rw [this]; simp
  have h2 : Go.bits .and .u32 ((m / 2 ^ i : Nat) : Int) 1 = (((m / 2 ^ i) % 2 : Nat) : Int) := by
    have hlt : m / 2 ^ i < 2 ^ 32 := Nat.lt_of_le_of_lt (Nat.div_le_self _ _) hm
    have h := (bits_nat .u32 32 (by decide) (fun n h0 h1 => by rw [IntKind.wrap_u32]; have : (2 : Int) ^ 32 = 4294967296 := by decide
                                                               omega) (m / 2 ^ i) 1 hlt (by decide)).1
    rw [show ((1 : Nat) : Int) = 1 from rfl] at h
    rw [h, Nat.and_one_is_mod]
  have h3 : (((m / 2 ^ i) % 2 : Nat) : Int) % 256 = (((m / 2 ^ i) % 2 : Nat) : Int) := by omega
  have h4 : Int.tmod (t : Int) 8 = ((t % 8 : Nat) : Int) := by
    rw [Int.tmod_eq_emod_of_nonneg (by omega)]; rfl
  have h5 : (m / 2 ^ i) % 2 = if m.testBit i then 1 else 0 := by
    rw [Nat.testBit_eq_decide_div_mod_eq]
    rcases Nat.mod_two_eq_zero_or_one (m / 2 ^ i) with h | h <;> simp [h]
  have h6 : shl .u8 ((if m.testBit i then 1 else 0 : Nat) : Int) ((t % 8 : Nat) : Int) = ((if m.testBit i then 2 ^ (t % 8) else 0 : Nat) : Int) := by
    unfold shl
    have e : IntKind.u8.bits = 8 := rfl
    have hmn : min ((t % 8 : Nat) : Int).toNat IntKind.u8.bits = t % 8 := by rw [e]; omega
    rw [hmn, IntKind.wrap_u8]
    have hp : t % 8 < 8 := Nat.mod_lt _ (by decide)
    cases m.testBit i
    · simp
    · have : 2 ^ (t % 8) ≤ 2 ^ 7 := Nat.pow_le_pow_right (by decide) (by omega)
      have h128 : (2 : Nat) ^ 7 = 128 := rfl
      simp only [if_true]
      have e2 : ((1 : Nat) : Int) * (2 : Int) ^ (t % 8) = ((2 ^ (t % 8) : Nat) : Int) := by simp
      rw [e2]
      have hpos : 0 < 2 ^ (t % 8) := Nat.two_pow_pos _
      generalize 2 ^ (t % 8) = g at *
      omega
  rw [h1, h2, h3, h4, h5, h6]
  have hw : (if m.testBit i then 2 ^ (t % 8) else 0) < 256 := by
    have hp : t % 8 < 8 := Nat.mod_lt _ (by decide)
    have : 2 ^ (t % 8) ≤ 2 ^ 7 := Nat.pow_le_pow_right (by decide) (by omega)
    have h128 : (2 : Nat) ^ 7 = 128 := rfl
    split <;> omega
  exact bits_xor_nat .u8 v _ (.inl rfl) hv hw

structure Flipped (p : List UInt8) (k i m : Nat) (x : List Int) : Prop where
  len : x.length = p.length
  range : ∀ j, j < p.length → 0 ≤ x.getD j 0 ∧ x.getD j 0 < 256
  bit : ∀ t, t < 8 * p.length → (x.getD (t / 8) 0).toNat.testBit (t % 8) = ((p.getD (t / 8) 0).toNat.testBit (t % 8) ^^ (decide (k ≤ t ∧ t < k + i) && m.testBit (t - k)))

theorem bytesOf_getD (s : ByteArray) (j : Nat) (h : j < s.size) : (bytesOf s).getD j 0 = (((L s).getD j 0).toNat : Int) := by
  have h' : j < s.data.toList.length := by rw [data_length]; exact h
  simp [bytesOf, L, List.getD_eq_getElem?_getD, List.getElem?_eq_getElem h']
theorem flipped_zero (s : ByteArray) (k m : Nat) : Flipped (L s) k 0 m (bytesOf s) := by
  refine ⟨by rw [bytesOf_length, L_len], fun j hj => ?_, fun t ht => ?_⟩
  · rw [L_len] at hj
    rw [bytesOf_getD s j hj]
    have := ((L s).getD j 0).toNat_lt
    omega
  · rw [L_len] at ht
    rw [bytesOf_getD s _ (by omega)]
    have : ¬ (k ≤ t ∧ t < k + 0) := by omega
    rw [decide_eq_false this, Int.toNat_natCast]
    simp
theorem flipped_step {p : List UInt8} {k i m : Nat} {x : List Int} (h : Flipped p k i m x) (hm : m < 4294967296) (hi : i < 32) (hk : k + i < 8 * p.length) :
    Flipped p k (i + 1) m (x.set ((k + i) / 8) (Go.bits .xor .u8 (rd x (((k + i) / 8 : Nat) : Int)) (shl .u8 ((Go.bits .and .u32 (shr .u32 (m : Int) (i : Int)) 1) % 256) (Int.tmod ((k + i : Nat) : Int) 8)))) := by
  have hj : (k + i) / 8 < p.length := by omega
  have hr := h.range _ hj
  obtain ⟨v, hv⟩ : ∃ v : Nat, x.getD ((k + i) / 8) 0 = (v : Int) := ⟨(x.getD ((k + i) / 8) 0).toNat, by omega⟩
  have hv256 : v < 256 := by omega
  have hrd : rd x (((k + i) / 8 : Nat) : Int) = (v : Int) := by unfold rd; rw [Int.toNat_natCast]; exact hv
  rw [hrd, flip_val v m i (k + i) hv256 hm hi]
  have hw : (if m.testBit i then 2 ^ ((k + i) % 8) else 0) < 256 := by
    have hp : (k + i) % 8 < 8 := Nat.mod_lt _ (by decide)
    have : 2 ^ ((k + i) % 8) ≤ 2 ^ 7 := Nat.pow_le_pow_right (by decide) (by omega)
    have h128 : (2 : Nat) ^ 7 = 128 := rfl
    split <;> omega
  have hx256 : v ^^^ (if m.testBit i then 2 ^ ((k + i) % 8) else 0) < 256 := Nat.xor_lt_two_pow (n := 8) hv256 hw
  have hget : ∀ j, j < p.length → ∀ y : Int, (x.set ((k + i) / 8) y).getD j 0 = if (k + i) / 8 = j then y else x.getD j 0 := by
    intro j hjl y
    have hxl : j < x.length := by rw [h.len]; exact hjl
    simp only [List.getD_eq_getElem?_getD, List.getElem?_set]
    split
    · rename_i e; subst e; simp [hxl]
    · rfl
  refine ⟨by rw [List.length_set]; exact h.len, fun j hjl => ?_, fun t ht => ?_⟩
  · rw [hget j hjl]
    split
    · omega
    · exact h.range j hjl
  · have hb := h.bit t ht
    rw [hget _ (by omega)]
    by_cases e : (k + i) / 8 = t / 8
    · rw [if_pos e, Int.toNat_natCast, Nat.testBit_xor]
      rw [← e, hv, Int.toNat_natCast] at hb
      rw [hb, ← e]
      by_cases et : k + i = t
      · subst et
        have h1 : ¬ (k ≤ k + i ∧ k + i < k + i) := by omega
        have h2 : (k ≤ k + i ∧ k + i < k + (i + 1)) := by omega
        rw [decide_eq_false h1, decide_eq_true h2, Nat.add_sub_cancel_left]
        cases m.testBit i
        · simp
        · rw [if_pos rfl, Nat.testBit_two_pow_self]; simp
      · have hne : (k + i) % 8 ≠ t % 8 := by omega
        have h1 : decide (k ≤ t ∧ t < k + i) = decide (k ≤ t ∧ t < k + (i + 1)) := by
          apply decide_eq_decide.2
          omega
        rw [h1]
        cases m.testBit i
        · simp
        · rw [if_pos rfl, Nat.testBit_two_pow_of_ne hne]; simp
    · rw [if_neg e, hb]
      have h1 : decide (k ≤ t ∧ t < k + i) = decide (k ≤ t ∧ t < k + (i + 1)) := by
        apply decide_eq_decide.2
        omega
      rw [h1]

theorem flipped_len {p : List UInt8} {k i m : Nat} {x : List Int} (h : Flipped p k i m x) : (L (strOfNums x)).length = p.length := by rw [L_nums, List.length_map, h.len]
theorem flipped_bit {p : List UInt8} {k i m : Nat} {x : List Int} (h : Flipped p k i m x) (t : Nat) (ht : t < 8 * p.length) : ((L (strOfNums x)).getD (t / 8) 0).toNat.testBit (t % 8) = ((p.getD (t / 8) 0).toNat.testBit (t % 8) ^^ (decide (k ≤ t ∧ t < k + i) && m.testBit (t - k))) := by
  have hj : t / 8 < p.length := by omega
  have hr := h.range _ hj
  rw [← h.bit t ht]
  have hx : t / 8 < x.length := by rw [h.len]; exact hj
  have e : (L (strOfNums x)).getD (t / 8) 0 = UInt8.ofNat (x.getD (t / 8) 0).toNat := by
    rw [L_nums]
    simp [List.getD_eq_getElem?_getD, List.getElem?_eq_getElem hx]
  rw [e, UInt8.toNat_ofNat', Nat.mod_eq_of_lt (by omega)]
/-- The burst is nothing: the text is as it was. -/
theorem flipped_none {p : List UInt8} {k i : Nat} {x : List Int} (h : Flipped p k i 0 x) : L (strOfNums x) = p := by
  apply List.ext_getElem (flipped_len h)
  intro j h1 h2
  apply UInt8.toNat_inj.1
  apply Nat.eq_of_testBit_eq
  intro q
  by_cases hq : q < 8
  · have ht := flipped_bit h (8 * j + q) (by omega)
    have e1 : (8 * j + q) / 8 = j := by omega
    have e2 : (8 * j + q) % 8 = q := by omega
    rw [e1, e2] at ht
    simp only [Nat.zero_testBit, Bool.and_false, Bool.xor_false] at ht
    simpa [List.getD_eq_getElem?_getD, List.getElem?_eq_getElem h1, List.getElem?_eq_getElem h2] using ht
  · have g : ∀ c : UInt8, c.toNat.testBit q = false := fun c => Nat.testBit_lt_two_pow (Nat.lt_of_lt_of_le c.toNat_lt (Nat.pow_le_pow_right (by decide) (by omega)))
    rw [g, g]
/-- If the sum still fits, the burst is nothing. -/
theorem flipped_reg {p : List UInt8} {k m : Nat} {x : List Int} (h : Flipped p k 32 m x) (hk : k + 32 ≤ 8 * p.length) (hm : m < 4294967296) (n : BitVec 32) (he : Crc.reg n p = Crc.reg n (L (strOfNums x))) : m = 0 := by
  have := Crc.burst p (L (strOfNums x)) (flipped_len h).symm k (BitVec.ofNat 32 m) hk (fun t ht => by
    rw [flipped_bit h t ht, BitVec.getLsbD_ofNat]
    congr 1
    by_cases h1 : k ≤ t
    · by_cases h2 : t < k + 32
      · have h3 : t - k < 32 := by omega
        simp [h1, h2, h3]
      · have h3 : ¬ t - k < 32 := by omega
        simp [h1, h2, h3]
    · simp [h1]) n he
  have e := congrArg BitVec.toNat this
  simp only [BitVec.toNat_ofNat] at e
  omega

end Go.Proofs.Ythhigjfkekdmiaa.B
