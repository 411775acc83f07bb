/- What the printed functions of the sums' layer compute, in lists of bytes: Sum, Put, Get of the program; Sum, PutSum, GetSum of the reference. -/
import Derived.Test.YthhigjfkekdmiaaCrc2
import Derived.Test.YthhigjfkekdmiaaM2
import Derived.Test.YthhigjfkekdmiaaM6
import Derived.Test.YthhigjfkekdmiaaM7
set_option linter.unusedSimpArgs false
set_option linter.unusedVariables false
namespace Go.Proofs.Ythhigjfkekdmiaa.B
open Go.RowKit Go.Proofs.Ythhigjfkekdmiaa Go.Proofs.Ythhigjfkekdmiaa.M Go.Proofs.YthhigjfkekdmiaaW.PrintWords Go.Proofs.YthhigjfkekdmiaaW.PrintLast Go.Proofs.YthhigjfkekdmiaaW.PrintMore

def L (s : ByteArray) : List UInt8 := s.data.toList
def ofL (l : List UInt8) : ByteArray := ⟨l.toArray⟩
theorem L_ofL (l : List UInt8) : L (ofL l) = l := rfl
theorem L_inj {a b : ByteArray} (h : L a = L b) : a = b := Go.WideShapes.bytes_inj h
theorem ofL_L (s : ByteArray) : ofL (L s) = s := L_inj rfl
theorem L_len (s : ByteArray) : (L s).length = s.size := data_length s
theorem ofL_size (l : List UInt8) : (ofL l).size = l.length := by simp [ofL, ByteArray.size]
theorem L_append (a b : ByteArray) : L (a ++ b) = L a ++ L b := by simp [L, ByteArray.data_append]
theorem L_extract (s : ByteArray) (i j : Nat) : L (s.extract i j) = ((L s).take j).drop i := by
  simp [L, List.extract, List.drop_take]
theorem L_toList (s : ByteArray) : s.toList = L s := Go.ByteArray.toList_eq s
theorem L_nums (xs : List Int) : L (strOfNums xs) = xs.map fun n => UInt8.ofNat n.toNat := strOfNums_data xs
theorem L_empty : L (⟨#[]⟩ : ByteArray) = [] := rfl
theorem eq_ofL {s : ByteArray} {l : List UInt8} (h : L s = l) : s = ofL l := by rw [← h, ofL_L]
theorem toList_eq_iff (a b : ByteArray) : a.toList = b.toList ↔ L a = L b := by rw [L_toList, L_toList]
theorem bt_L (s : ByteArray) (i : Nat) (h : i < s.size) : bt s (i : Int) = (((L s).getD i 0).toNat : Int) := by
  unfold bt
  have h' : i < s.data.toList.length := by rw [data_length]; exact h
  simp [L, List.getD_eq_getElem?_getD, List.getElem?_eq_getElem h', h]
  rfl
theorem wrap_id {x : Int} (h0 : -9223372036854775808 ≤ x) (h1 : x ≤ 9223372036854775807) : wrap64 x = x := by unfold wrap64; omega

theorem le4_nums (v : BitVec 32) : (([((v.toNat : Int)) % 256, ((v.toNat : Int) / 256) % 256, ((v.toNat : Int) / 65536) % 256, ((v.toNat : Int) / 16777216) % 256] : List Int).map fun n => UInt8.ofNat n.toNat) = Crc.le4 v := by
  simp only [List.map_cons, List.map_nil, Crc.le4]
  have e0 : ((v.toNat : Int) % 256).toNat = v.toNat % 256 := by omega
  have e1 : ((v.toNat : Int) / 256 % 256).toNat = v.toNat / 256 % 256 := by omega
  have e2 : ((v.toNat : Int) / 65536 % 256).toNat = v.toNat / 65536 % 256 := by omega
  have e3 : ((v.toNat : Int) / 16777216 % 256).toNat = v.toNat / 16777216 % 256 := by omega
  rw [e0, e1, e2, e3]

theorem sum_f (s : ByteArray) (h : s.size ≤ 9223372036854775807) : crc_Sum.f s = some ((Crc.sum (L s)).toNat : Int) := by
  unfold crc_Sum.f crcS
  rw [if_pos h]; rfl
theorem awake2 : boomeranglaw2_awake.f = some true := by decide +kernel

theorem put_f (s : ByteArray) (h : s.size ≤ 9223372036854770000) : crc_Put.f s = some (ofL (Crc.put (L s))) := by
  unfold crc_Put.f
  rw [sum_f s (by omega)]
  simp only [Option.bind_some]
  have hs : (strOfNums [((Crc.sum (L s)).toNat : Int) % 256, ((Crc.sum (L s)).toNat : Int) / 256 % 256, ((Crc.sum (L s)).toNat : Int) / 65536 % 256, ((Crc.sum (L s)).toNat : Int) / 16777216 % 256]).size = 4 := by rw [strOfNums_size]; rfl
  rw [if_pos (by rw [hs]; omega)]
  refine congrArg some (eq_ofL ?_)
  rw [L_append, L_nums, le4_nums]
  rfl

def GetS (l : List UInt8) : List UInt8 × Int :=
  if l.length < 4 then ([], 3) else if Crc.put (l.take (l.length - 4)) = l then (l.take (l.length - 4), 0) else ([], 5)
theorem get_f (s : ByteArray) (h : s.size ≤ 9223372036854770000) : crc_Get.f s = some (ofL (GetS (L s)).1, (GetS (L s)).2) := by
  unfold crc_Get.f GetS
  rw [L_len]
  by_cases h4 : s.size < 4
  · rw [if_pos (by omega), if_pos h4]; rfl
  · rw [if_neg (by omega), if_neg h4]
    have hw : wrap64 ((s.size : Int) - 4) = ((s.size - 4 : Nat) : Int) := by rw [wrap_id (by omega) (by omega)]; omega
    rw [hw, if_pos (by omega), if_pos (by omega)]
    simp only [Int.toNat_natCast]
    have hL : L (s.extract 0 (s.size - 4)) = (L s).take (s.size - 4) := by rw [L_extract, List.drop_zero]
    rw [put_f _ (by rw [← L_len, hL, List.length_take]; omega)]
    simp only [Option.bind_some]
    rw [hL]
    by_cases hp : Crc.put ((L s).take (s.size - 4)) = L s
    · rw [if_pos (by rw [toList_eq_iff, L_ofL]; exact hp), if_pos hp]
      rw [eq_ofL hL]
    · rw [if_neg (by rw [toList_eq_iff, L_ofL]; exact hp), if_neg hp]; rfl

/-! the reference -/
theorem bits_and_one (n : BitVec 32) : Go.bits .and .u32 (n.toNat : Int) 1 = if n.getLsbD 0 then 1 else 0 := by
  have h := (bits_nat .u32 32 (by decide) (fun n h0 h1 => by rw [IntKind.wrap_u32]; have : (2 : Int) ^ 32 = 4294967296 := by decide
                                                             omega) n.toNat 1 n.isLt (by decide)).1
  rw [show ((1 : Nat) : Int) = 1 from rfl] at h
  rw [h, Nat.and_one_is_mod]
  rw [← BitVec.testBit_toNat, Nat.testBit_zero]
  rcases Nat.mod_two_eq_zero_or_one n.toNat with h | h <;> simp [h]
theorem ref_l1 (k : Nat) (s : ByteArray) (n : BitVec 32) (i : Int) (j : Nat) (hj : j < 8) :
    boomerangref1_Sum.l1 (k + 1) s (n.toNat : Int) i (j : Int) = boomerangref1_Sum.l1 k s ((Crc.step n).toNat : Int) i ((j + 1 : Nat) : Int) := by
  simp only [boomerangref1_Sum.l1]
  rw [if_pos (by omega), bits_and_one]
  have hd : ((n.toNat : Int)) / (2 : Int) = (((n >>> 1).toNat : Nat) : Int) := by rw [BitVec.toNat_ushiftRight, Nat.shiftRight_eq_div_pow]; omega
  have hw : wrap64 ((j : Int) + 1) = ((j + 1 : Nat) : Int) := by rw [wrap_id (by omega) (by omega)]; rfl
  rw [hd, hw]
  cases h0 : n.getLsbD 0
  · rw [if_neg (by decide), Crc.step_even n h0]
  · rw [if_pos (by decide)]
    have e : Go.bits .xor .u32 ((n >>> 1).toNat : Int) 2197175160 = ((Crc.step n).toNat : Int) := by
      have := bits_xor_nat .u32 (n >>> 1).toNat (2197175160 : Nat) (.inr rfl) (n >>> 1).isLt (by decide)
      rw [show ((2197175160 : Nat) : Int) = 2197175160 from rfl] at this
      rw [this, Crc.step, h0, if_pos rfl, BitVec.toNat_xor]
      rfl
    rw [e]
theorem ref_l1_end (k : Nat) (s : ByteArray) (n : BitVec 32) (i : Nat) (hi : i < s.size) (hs : s.size ≤ 9223372036854770000) :
    boomerangref1_Sum.l1 (k + 1) s (n.toNat : Int) (i : Int) 8 = boomerangref1_Sum.l0 k s (n.toNat : Int) ((i + 1 : Nat) : Int) := by
  simp only [boomerangref1_Sum.l1]
  rw [if_neg (by omega), wrap_id (by omega) (by omega)]
  rfl
theorem ref_byte (k : Nat) (s : ByteArray) (n : BitVec 32) (i : Nat) (hi : i < s.size) (hs : s.size ≤ 9223372036854770000) :
    boomerangref1_Sum.l0 (k + 10) s (n.toNat : Int) (i : Int) = boomerangref1_Sum.l0 k s ((Crc.byte n ((L s).getD i 0)).toNat : Int) ((i + 1 : Nat) : Int) := by
  show boomerangref1_Sum.l0 (k + 9 + 1) s _ _ = _
  simp only [boomerangref1_Sum.l0]
  rw [if_pos (by omega), if_pos (by omega), bt_L s i hi]
  generalize (L s).getD i 0 = c
  have hc := c.toNat_lt
  have e : Go.bits .xor .u32 (n.toNat : Int) ((c.toNat : Int) % 4294967296) = ((n ^^^ BitVec.ofNat 32 c.toNat).toNat : Int) := by
    rw [show (c.toNat : Int) % 4294967296 = (c.toNat : Int) by omega, bits_xor_nat .u32 n.toNat c.toNat (.inr rfl) n.isLt (by have : c.toNat < 256 := hc; show c.toNat < 4294967296; omega)]
    rw [BitVec.toNat_xor, BitVec.toNat_ofNat, Nat.mod_eq_of_lt (by omega)]
  rw [e, show (0 : Int) = ((0 : Nat) : Int) from rfl]
  rw [show k + 9 = (k + 8) + 1 by omega, ref_l1 _ _ _ _ 0 (by omega), show k + 8 = (k + 7) + 1 by omega, ref_l1 _ _ _ _ 1 (by omega), show k + 7 = (k + 6) + 1 by omega, ref_l1 _ _ _ _ 2 (by omega), show k + 6 = (k + 5) + 1 by omega, ref_l1 _ _ _ _ 3 (by omega), show k + 5 = (k + 4) + 1 by omega, ref_l1 _ _ _ _ 4 (by omega), show k + 4 = (k + 3) + 1 by omega, ref_l1 _ _ _ _ 5 (by omega), show k + 3 = (k + 2) + 1 by omega, ref_l1 _ _ _ _ 6 (by omega), show k + 2 = (k + 1) + 1 by omega, ref_l1 _ _ _ _ 7 (by omega)]
  rw [show ((7 + 1 : Nat) : Int) = 8 from rfl, ref_l1_end k s _ i hi hs]
  rfl
theorem ref_l0 (s : ByteArray) (hs : s.size ≤ 9223372036854770000) : ∀ (d k i : Nat) (n : BitVec 32), i + d = s.size → 
    boomerangref1_Sum.l0 (k + 1 + 10 * d) s (n.toNat : Int) (i : Int) = some ((Crc.full ^^^ Crc.reg n ((L s).drop i)).toNat : Int)
  | 0, k, i, n, h => by
    simp only [Nat.mul_zero, Nat.add_zero, boomerangref1_Sum.l0]
    rw [if_neg (by omega), List.drop_eq_nil_of_le (by rw [L_len]; omega), Crc.reg_nil]
    have := bits_xor_nat .u32 4294967295 n.toNat (.inr rfl) (by decide) n.isLt
    rw [show ((4294967295 : Nat) : Int) = 4294967295 from rfl] at this
    rw [this, BitVec.toNat_xor]
    rfl
  | d + 1, k, i, n, h => by
    have hi : i < s.size := by omega
    rw [show k + 1 + 10 * (d + 1) = (k + 1 + 10 * d) + 10 by omega, ref_byte _ s n i hi hs, ref_l0 s hs d k (i + 1) _ (by omega)]
    have hl : i < (L s).length := by rw [L_len]; exact hi
    rw [List.drop_eq_getElem_cons hl, Crc.reg_cons]
    congr 5
    simp [List.getD_eq_getElem?_getD, hl]
theorem ref_sum_f (s : ByteArray) (hs : s.size ≤ 9223372036854770000) (k : Nat) (hk : 10 * s.size + 1 ≤ k) : boomerangref1_Sum.f k s = some ((Crc.sum (L s)).toNat : Int) := by
  obtain ⟨j, rfl⟩ : ∃ j, k = j + 1 + 10 * s.size := ⟨k - 1 - 10 * s.size, by omega⟩
  unfold boomerangref1_Sum.f
  have := ref_l0 s hs s.size j 0 Crc.full (by omega)
  rw [List.drop_zero] at this
  exact this
theorem ref_put_f (s : ByteArray) (hs : s.size ≤ 9223372036854770000) (k : Nat) (hk : 10 * s.size + 1 ≤ k) : boomerangref1_PutSum.f k s = some (ofL (Crc.put (L s))) := by
  unfold boomerangref1_PutSum.f
  rw [ref_sum_f s hs k hk, ← put_f s hs]
  unfold crc_Put.f
  rw [sum_f s (by omega)]
theorem ref_get_f (s : ByteArray) (h : s.size ≤ 9223372036854770000) (k : Nat) (hk : 10 * s.size + 1 ≤ k) : boomerangref1_GetSum.f k s = some (ofL (GetS (L s)).1, 0, (GetS (L s)).2) := by
  unfold boomerangref1_GetSum.f GetS
  rw [L_len]
  by_cases h4 : s.size < 4
  · rw [if_pos (by omega), if_pos h4]; rfl
  · rw [if_neg (by omega), if_neg h4]
    have hw : wrap64 ((s.size : Int) - 4) = ((s.size - 4 : Nat) : Int) := by rw [wrap_id (by omega) (by omega)]; omega
    rw [hw, if_pos (by omega), if_pos (by omega)]
    simp only [Int.toNat_natCast]
    have hL : L (s.extract 0 (s.size - 4)) = (L s).take (s.size - 4) := by rw [L_extract, List.drop_zero]
    have hz : (s.extract 0 (s.size - 4)).size = s.size - 4 := by rw [← L_len, hL, List.length_take, L_len]; omega
    rw [ref_put_f _ (by omega) k (by omega)]
    simp only [Option.bind_some]
    rw [hL]
    by_cases hp : Crc.put ((L s).take (s.size - 4)) = L s
    · rw [if_pos (by rw [toList_eq_iff, L_ofL]; exact hp), if_pos hp]
      rw [eq_ofL hL]
    · rw [if_neg (by rw [toList_eq_iff, L_ofL]; exact hp), if_neg hp]; rfl

end Go.Proofs.Ythhigjfkekdmiaa.B
