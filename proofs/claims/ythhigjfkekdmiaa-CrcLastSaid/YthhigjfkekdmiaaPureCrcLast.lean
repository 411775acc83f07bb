/- For all texts and bytes: with another last byte the sum is another one; behind its own sum each text has the same one. Condition: each text takes at most 140737488351232 bytes. -/
import Derived.Test.YthhigjfkekdmiaaCrcB
import Derived.Test.YthhigjfkekdmiaaM5
set_option linter.unusedSimpArgs false
set_option linter.unusedVariables false
namespace Go.Proofs.Ythhigjfkekdmiaa.Pure
open Go.RowKit Go.Proofs.Ythhigjfkekdmiaa Go.Proofs.Ythhigjfkekdmiaa.M Go.Proofs.YthhigjfkekdmiaaW.PrintWords Go.Proofs.YthhigjfkekdmiaaW.PrintLast Go.Proofs.YthhigjfkekdmiaaW.PrintMore Go.Proofs.Ythhigjfkekdmiaa.B

theorem last_j (s t : ByteArray) (x y : Int) (hs : s.size ≤ 300) (ht : t.size ≤ 300) (hx : 0 ≤ x ∧ x < 256) (hy : 0 ≤ y ∧ y < 256) (k : Nat) : boomeranglaw2_CrcLast.j0 (k + 1) s t x y false = some true := by
  have hz : ∀ z : Int, (strOfNums [z]).size = 1 := fun z => by rw [strOfNums_size]; rfl
  have hl : ∀ z : Int, L (s ++ strOfNums [z]) = L s ++ [UInt8.ofNat z.toNat] := fun z => by rw [L_append, L_nums]; rfl
  have hf : ∀ z : Int, crc_Sum.f (s ++ strOfNums [z]) = some ((Crc.sum (L s ++ [UInt8.ofNat z.toNat])).toNat : Int) := fun z => by
    rw [sum_f _ (by rw [ByteArray.size_append, hz]; omega), hl]
  have hp : ∀ r : ByteArray, r.size ≤ 300 → crc_Sum.f (ofL (Crc.put (L r))) = some ((Crc.full ^^^ Crc.stepN 32 Crc.full).toNat : Int) := by
    intro r hr
    rw [sum_f _ (by rw [ofL_size, Crc.put, List.length_append, L_len, Crc.le4_length]; omega), L_ofL, Crc.sum, Crc.reg_put]
  simp only [boomeranglaw2_CrcLast.j0]
  rw [if_neg (by decide)]
  simp only [Option.bind_some]
  rw [if_pos (by rw [hz]; omega), hf x]
  simp only [Option.bind_some]
  rw [if_pos (by rw [hz]; omega), hf y]
  simp only [Option.bind_some]
  have hc : ((((Crc.sum (L s ++ [UInt8.ofNat x.toNat])).toNat : Int) == ((Crc.sum (L s ++ [UInt8.ofNat y.toNat])).toNat : Int)) == (x == y)) = true := by
    rw [beq_iff_eq, Bool.eq_iff_iff, beq_iff_eq, beq_iff_eq]
    constructor
    · intro h
      have h1 : (Crc.sum (L s ++ [UInt8.ofNat x.toNat])) = (Crc.sum (L s ++ [UInt8.ofNat y.toNat])) := BitVec.eq_of_toNat_eq (by omega)
      have h2 := (Crc.sum_last _ _ _).1 h1
      have h3 := congrArg UInt8.toNat h2
      simp only [UInt8.toNat_ofNat'] at h3
      omega
    · rintro rfl; rfl
  rw [if_pos hc, put_f s (by omega)]
  simp only [Option.bind_some]
  rw [hp s hs]
  simp only [Option.bind_some]
  rw [put_f t (by omega)]
  simp only [Option.bind_some]
  rw [hp t ht]
  simp only [Option.bind_some]
  rw [if_pos trivial, awake2]
  rfl
theorem last_t (s t : ByteArray) (x y : Int) (k : Nat) : boomeranglaw2_CrcLast.j0 (k + 1) s t x y true = some true := by
  simp only [boomeranglaw2_CrcLast.j0]
  rw [if_pos trivial, awake2]
  rfl
theorem u8_range {x : Int} (h : (Lit.int .u8 x).wf = true) : 0 ≤ x ∧ x < 256 := by
  have h1 : IntKind.u8.min ≤ x ∧ x ≤ IntKind.u8.max := by simpa [Lit.wf] using h
  have e1 : IntKind.u8.min = 0 := by decide
  have e2 : IntKind.u8.max = 255 := by decide
  omega

theorem CrcLast : boomeranglaw2_CrcLast.Pure := by
  intro s t x y hs ht hx hy
  refine ⟨1, ?_⟩
  unfold boomeranglaw2_CrcLast.f
  by_cases h1 : (s.size : Int) > 300
  · rw [if_pos h1]; exact last_t s t x y 0
  · rw [if_neg h1]
    by_cases h2 : (t.size : Int) > 300
    · rw [decide_eq_true h2]; exact last_t s t x y 0
    · rw [decide_eq_false h2]; exact last_j s t x y (by omega) (by omega) (u8_range hx) (u8_range hy) 0

end Go.Proofs.Ythhigjfkekdmiaa.Pure
