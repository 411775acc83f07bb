/- For all three texts: sums of three texts of one length together are that of what all three are, bit by bit. Condition: each text takes at most 140737488351232 bytes. -/
import Derived.Test.YthhigjfkekdmiaaCrcB
import Derived.Test.YthhigjfkekdmiaaM3
set_option linter.unusedSimpArgs false
set_option linter.unusedVariables false
namespace Go.Proofs.Ythhigjfkekdmiaa.Pure
open Go.RowKit Go.Proofs.Ythhigjfkekdmiaa Go.Proofs.Ythhigjfkekdmiaa.M Go.Proofs.YthhigjfkekdmiaaW.PrintWords Go.Proofs.YthhigjfkekdmiaaW.PrintLast Go.Proofs.YthhigjfkekdmiaaW.PrintMore Go.Proofs.Ythhigjfkekdmiaa.B

def mixByte (a b c : ByteArray) (j : Nat) : UInt8 := (L a).getD j 0 ^^^ (L b).getD j 0 ^^^ (L c).getD j 0
theorem xor_bytes (a b : UInt8) : Go.bits .xor .u8 (a.toNat : Int) (b.toNat : Int) = ((a ^^^ b).toNat : Int) := by
  rw [bits_xor_nat .u8 a.toNat b.toNat (.inl rfl) a.toNat_lt b.toNat_lt, UInt8.toNat_xor]
theorem mix_list (a b c : ByteArray) (n : Nat) (ha : n ≤ a.size) (hb : n ≤ b.size) (hc : n ≤ c.size) (x : List Int) (hx : x.length = n) (h : ∀ j, j < n → x.getD j 0 = ((mixByte a b c j).toNat : Int)) :
    L (strOfNums x) = List.zipWith (· ^^^ ·) (List.zipWith (· ^^^ ·) ((L a).take n) ((L b).take n)) ((L c).take n) := by
  have la := L_len a
  have lb := L_len b
  have lc := L_len c
  rw [L_nums]
  apply List.ext_getElem
  · simp; omega
  · intro j h1 h2
    have hj : j < n := by simpa [hx] using h1
    have e := h j hj
    rw [List.getD_eq_getElem?_getD, List.getElem?_eq_getElem (by omega)] at e
    simp only [Option.getD_some] at e
    simp only [List.getElem_map, List.getElem_zipWith, List.getElem_take]
    rw [e]
    simp only [Int.toNat_natCast, UInt8.ofNat_toNat]
    unfold mixByte
    simp only [List.getD_eq_getElem?_getD]
    rw [List.getElem?_eq_getElem (by omega), List.getElem?_eq_getElem (by omega), List.getElem?_eq_getElem (by omega)]
    rfl
theorem mix_end (a b c : ByteArray) (n : Nat) (hn : n ≤ 300) (ha : n ≤ a.size) (hb : n ≤ b.size) (hc : n ≤ c.size) (x : List Int) (hx : x.length = n) (h : ∀ j, j < n → x.getD j 0 = ((mixByte a b c j).toNat : Int)) (k : Nat) :
    boomeranglaw2_CrcMix.l0 (k + 1) a b c (n : Int) x (n : Int) = some true := by
  have hex : ∀ s : ByteArray, n ≤ s.size → crc_Sum.f (s.extract 0 n) = some ((Crc.sum ((L s).take n)).toNat : Int) := by
    intro s hs
    have e : L (s.extract 0 n) = (L s).take n := by rw [L_extract, List.drop_zero]
    rw [sum_f _ (by rw [← L_len, e, List.length_take]; omega), e]
  have hz : crc_Sum.f (strOfNums x) = some ((Crc.sum (L (strOfNums x))).toNat : Int) := sum_f _ (by rw [strOfNums_size]; omega)
  simp only [boomeranglaw2_CrcMix.l0]
  rw [if_neg (by omega), if_pos (by omega), if_pos (by omega)]
  simp only [Int.toNat_natCast]
  rw [hex a ha]
  simp only [Option.bind_some]
  rw [if_pos (by omega), hex b hb]
  simp only [Option.bind_some]
  rw [if_pos (by omega), hex c hc]
  simp only [Option.bind_some]
  rw [hz, mix_list a b c n ha hb hc x hx h]
  simp only [Option.bind_some]
  rw [← Crc.sum_mix _ _ _ (by simp [L_len]; omega) (by simp [L_len]; omega)]
  have hxx : ∀ u v : BitVec 32, Go.bits .xor .u32 (u.toNat : Int) (v.toNat : Int) = ((u ^^^ v).toNat : Int) := by
    intro u v
    rw [bits_xor_nat .u32 u.toNat v.toNat (.inr rfl) u.isLt v.isLt, BitVec.toNat_xor]
  rw [hxx, hxx, if_pos rfl, awake2]
  rfl
theorem mix_loop (a b c : ByteArray) (n : Nat) (hn : n ≤ 300) (ha : n ≤ a.size) (hb : n ≤ b.size) (hc : n ≤ c.size) : ∀ (d i : Nat) (x : List Int), i + d = n → x.length = n → (∀ j, j < i → x.getD j 0 = ((mixByte a b c j).toNat : Int)) →
    boomeranglaw2_CrcMix.l0 (d + 1) a b c (n : Int) x (i : Int) = some true
  | 0, i, x, hd, hx, h => by
    obtain rfl : i = n := by omega
    exact mix_end a b c i hn ha hb hc x hx h 0
  | d + 1, i, x, hd, hx, h => by
    have hi : i < n := by omega
    simp only [boomeranglaw2_CrcMix.l0]
    rw [if_pos (by omega), if_pos (by omega), if_pos (by omega), if_pos (by omega), if_pos (by omega), if_pos (by omega)]
    rw [bt_L a i (by omega), bt_L b i (by omega), bt_L c i (by omega), xor_bytes, xor_bytes, wrap_id (by omega) (by omega)]
    have e : ((i : Int) + 1) = ((i + 1 : Nat) : Int) := rfl
    rw [e]
    refine mix_loop a b c n hn ha hb hc d (i + 1) _ (by omega) (by simpa using hx) ?_
    intro j hj
    simp only [Int.toNat_natCast]
    by_cases hji : j = i
    · subst hji
      rw [List.getD_eq_getElem?_getD, List.getElem?_set_self (by omega)]
      rfl
    · rw [List.getD_eq_getElem?_getD, List.getElem?_set_ne (fun h => hji h.symm), ← List.getD_eq_getElem?_getD]
      exact h j (by omega)

theorem CrcMix : boomeranglaw2_CrcMix.Pure := by
  intro a b c ha hb hc
  obtain ⟨n, hn⟩ : ∃ n : Nat, mn (mn (mn (a.size : Int) (b.size : Int)) (c.size : Int)) 300 = (n : Int) := by
    refine ⟨(mn (mn (mn (a.size : Int) (b.size : Int)) (c.size : Int)) 300).toNat, ?_⟩
    unfold mn
    (repeat' split) <;> omega
  have hb1 : n ≤ 300 ∧ n ≤ a.size ∧ n ≤ b.size ∧ n ≤ c.size := by
    unfold mn at hn
    (repeat' split at hn) <;> omega
  refine ⟨n + 1, ?_⟩
  unfold boomeranglaw2_CrcMix.f
  rw [hn, if_pos (by omega)]
  simp only [Int.toNat_natCast]
  rw [if_pos (by omega)]
  exact mix_loop a b c n hb1.1 hb1.2.1 hb1.2.2.1 hb1.2.2.2 n 0 _ (by omega) (by simp) (fun j hj => absurd hj (by omega))

end Go.Proofs.Ythhigjfkekdmiaa.Pure
