/- Sums of 32 bits as linear maps over bit vectors: the reference's bitwise step, the table's form, linearity, injectivity, bursts. Plain Lean: no program in sight. -/
namespace Go.Proofs.Ytmdcpmfanpopgaa.Crc
set_option linter.unusedSimpArgs false
set_option linter.unusedVariables false

def poly : BitVec 32 := 2197175160#32
def step (n : BitVec 32) : BitVec 32 := (n >>> 1) ^^^ (if n.getLsbD 0 then poly else 0#32)
def stepN : Nat → BitVec 32 → BitVec 32
  | 0, n => n
  | k + 1, n => stepN k (step n)
def byte (n : BitVec 32) (c : UInt8) : BitVec 32 := stepN 8 (n ^^^ BitVec.ofNat 32 c.toNat)
def reg (n : BitVec 32) (l : List UInt8) : BitVec 32 := l.foldl byte n
def full : BitVec 32 := 4294967295#32
def sum (l : List UInt8) : BitVec 32 := full ^^^ reg full l

theorem xor_lsb (a b : BitVec 32) : (a ^^^ b).getLsbD 0 = (a.getLsbD 0 ^^ b.getLsbD 0) := BitVec.getLsbD_xor
theorem step_xor (a b : BitVec 32) : step (a ^^^ b) = step a ^^^ step b := by
  unfold step
  rw [xor_lsb, BitVec.ushiftRight_xor_distrib]
  cases ha : a.getLsbD 0 <;> cases hb : b.getLsbD 0
  · simp
  · simp [BitVec.xor_assoc]
  · simp only [Bool.xor_false, if_true]
    simp [BitVec.xor_assoc, BitVec.xor_comm poly]
  · simp only [Bool.xor_self, if_true]
    have e : a >>> 1 ^^^ poly ^^^ (b >>> 1 ^^^ poly) = a >>> 1 ^^^ b >>> 1 ^^^ (poly ^^^ poly) := by
      rw [BitVec.xor_assoc, BitVec.xor_comm poly (b >>> 1 ^^^ poly), BitVec.xor_assoc (b >>> 1), ← BitVec.xor_assoc]
    rw [e, BitVec.xor_self]
    simp
theorem step_zero : step 0#32 = 0#32 := by decide
theorem stepN_xor : ∀ (k : Nat) (a b : BitVec 32), stepN k (a ^^^ b) = stepN k a ^^^ stepN k b
  | 0, _, _ => rfl
  | k + 1, a, b => by simp only [stepN]; rw [step_xor, stepN_xor k]
theorem stepN_zero : ∀ k, stepN k 0#32 = 0#32
  | 0 => rfl
  | k + 1 => by simp only [stepN]; rw [step_zero, stepN_zero k]
theorem stepN_add : ∀ (j k : Nat) (a : BitVec 32), stepN (j + k) a = stepN k (stepN j a)
  | 0, k, a => by simp [stepN]
  | j + 1, k, a => by rw [show j + 1 + k = (j + k) + 1 by omega]; simp only [stepN]; exact stepN_add j k _
theorem stepN_succ (k : Nat) (a : BitVec 32) : stepN (k + 1) a = step (stepN k a) := stepN_add k 1 a

theorem step_even (n : BitVec 32) (h : n.getLsbD 0 = false) : step n = n >>> 1 := by
  unfold step
  rw [h]
  simp
theorem stepN_high : ∀ (k : Nat) (n : BitVec 32), (∀ i, i < k → n.getLsbD i = false) → stepN k n = n >>> k
  | 0, n, _ => by simp [stepN]
  | k + 1, n, h => by
    simp only [stepN]
    rw [step_even n (h 0 (by omega)), stepN_high k _ (fun i hi => by rw [BitVec.getLsbD_ushiftRight]; exact h (1 + i) (by omega))]
    rw [show k + 1 = 1 + k by omega, BitVec.shiftRight_add]

theorem xor_eq_zero {a b : BitVec 32} (h : a ^^^ b = 0#32) : a = b := by
  have e : a ^^^ b ^^^ b = b := by rw [h]; simp
  rw [BitVec.xor_assoc, BitVec.xor_self] at e
  simpa using e
theorem step_eq_zero {n : BitVec 32} (h : step n = 0#32) : n = 0#32 := by
  cases h0 : n.getLsbD 0 with
  | true =>
    have h31 : (step n).getLsbD 31 = true := by
      unfold step
      rw [h0, if_pos rfl, BitVec.getLsbD_xor, BitVec.getLsbD_ushiftRight]
      have e1 : n.getLsbD (1 + 31) = false := BitVec.getLsbD_of_ge n 32 (by omega)
      have e2 : poly.getLsbD 31 = true := by decide
      rw [e1, e2]; rfl
    rw [h] at h31
    simp at h31
  | false =>
    rw [step_even n h0] at h
    apply BitVec.eq_of_getLsbD_eq
    intro i hi
    rcases Nat.eq_zero_or_pos i with rfl | hp
    · rw [h0]; simp
    · have e : (n >>> 1).getLsbD (i - 1) = n.getLsbD i := by rw [BitVec.getLsbD_ushiftRight]; congr 1; omega
      rw [← e, h]; simp
theorem stepN_eq_zero : ∀ (k : Nat) {n : BitVec 32}, stepN k n = 0#32 → n = 0#32
  | 0, _, h => h
  | k + 1, _, h => step_eq_zero (stepN_eq_zero k h)
theorem stepN_inj {k : Nat} {a b : BitVec 32} (h : stepN k a = stepN k b) : a = b := by
  apply xor_eq_zero
  apply stepN_eq_zero k
  rw [stepN_xor, h, BitVec.xor_self]

/-! the table's form -/
def cell (i : Nat) : BitVec 32 := stepN 8 (BitVec.ofNat 32 i)
theorem byte_table (n : BitVec 32) (c : UInt8) : byte n c = (n >>> 8) ^^^ cell ((n.toNat % 256) ^^^ c.toNat) := by
  have hlo : n = (n >>> 8 <<< 8) ^^^ BitVec.ofNat 32 (n.toNat % 256) := by
    apply BitVec.eq_of_getLsbD_eq
    intro i hi
    rw [BitVec.getLsbD_xor, BitVec.getLsbD_shiftLeft, BitVec.getLsbD_ushiftRight, BitVec.getLsbD_ofNat]
    rw [show (256 : Nat) = 2 ^ 8 from rfl, Nat.testBit_mod_two_pow, BitVec.testBit_toNat]
    by_cases h8 : i < 8
    · simp [hi, h8]
    · have e : 8 + (i - 8) = i := by omega
      simp [hi, h8, e]
  have hc : BitVec.ofNat 32 (n.toNat % 256) ^^^ BitVec.ofNat 32 c.toNat = BitVec.ofNat 32 ((n.toNat % 256) ^^^ c.toNat) := by
    apply BitVec.eq_of_getLsbD_eq
    intro i hi
    simp [BitVec.getLsbD_ofNat, hi]
  unfold byte cell
  conv => lhs; rw [hlo]
  rw [BitVec.xor_assoc, hc, stepN_xor]
  rw [stepN_high 8 (n >>> 8 <<< 8) (fun i hi => by rw [BitVec.getLsbD_shiftLeft]; simp [hi])]
  congr 1
  apply BitVec.eq_of_getLsbD_eq
  intro i hi
  rw [BitVec.getLsbD_ushiftRight, BitVec.getLsbD_shiftLeft, BitVec.getLsbD_ushiftRight, BitVec.getLsbD_ushiftRight]
  by_cases h : 8 + i < 32
  · simp [h]
  · simp only [h]
    simp
    exact BitVec.getLsbD_of_ge n (8 + i) (by omega)

end Go.Proofs.Ytmdcpmfanpopgaa.Crc
