/- Sums of 32 bits, on: texts joined, three texts mixed bit by bit, the last byte, a text behind its own sum, bursts of 32 bits. Plain Lean: no program in sight. -/
import Derived.Test.YthhigjfkekdmiaaCrc
set_option linter.unusedSimpArgs false
set_option linter.unusedVariables false
namespace Go.Proofs.Ythhigjfkekdmiaa.Crc

theorem reg_append (n : BitVec 32) (a b : List UInt8) : reg n (a ++ b) = reg (reg n a) b := by simp [reg, List.foldl_append]
theorem reg_cons (n : BitVec 32) (c : UInt8) (l : List UInt8) : reg n (c :: l) = reg (byte n c) l := rfl
theorem reg_nil (n : BitVec 32) : reg n [] = n := rfl

theorem ofNat_xor (a b : Nat) : BitVec.ofNat 32 (a ^^^ b) = BitVec.ofNat 32 a ^^^ BitVec.ofNat 32 b := by
  apply BitVec.eq_of_getLsbD_eq
  intro i hi
  simp [BitVec.getLsbD_ofNat, hi]
theorem byte_xor (a b : BitVec 32) (x y : UInt8) : byte (a ^^^ b) (x ^^^ y) = byte a x ^^^ byte b y := by
  unfold byte
  rw [← stepN_xor, UInt8.toNat_xor, ofNat_xor]
  congr 1
  rw [BitVec.xor_assoc, BitVec.xor_assoc, ← BitVec.xor_assoc b, BitVec.xor_comm b, BitVec.xor_assoc]
theorem reg_xor : ∀ (l m : List UInt8) (a b : BitVec 32), l.length = m.length → reg (a ^^^ b) (List.zipWith (· ^^^ ·) l m) = reg a l ^^^ reg b m
  | [], [], a, b, _ => rfl
  | x :: l, y :: m, a, b, h => by
    simp only [List.zipWith_cons_cons, reg_cons]
    rw [byte_xor]
    exact reg_xor l m _ _ (by simpa using h)
  | [], _ :: _, _, _, h => by simp at h
  | _ :: _, [], _, _, h => by simp at h

theorem full_xor3 : full ^^^ full ^^^ full = full := by decide
theorem sum_mix (s t u : List UInt8) (h1 : s.length = t.length) (h2 : s.length = u.length) :
    sum s ^^^ sum t ^^^ sum u = sum (List.zipWith (· ^^^ ·) (List.zipWith (· ^^^ ·) s t) u) := by
  have e : reg full (List.zipWith (· ^^^ ·) (List.zipWith (· ^^^ ·) s t) u) = reg full s ^^^ reg full t ^^^ reg full u := by
    conv => lhs; rw [← full_xor3]
    rw [reg_xor _ _ _ _ (by simp [h1, ← h2]), reg_xor _ _ _ _ h1]
  unfold sum
  rw [e]
  generalize reg full s = A
  generalize reg full t = B
  generalize reg full u = C
  generalize full = F
  apply BitVec.eq_of_getLsbD_eq
  intro i hi
  simp only [BitVec.getLsbD_xor]
  cases F.getLsbD i <;> cases A.getLsbD i <;> cases B.getLsbD i <;> cases C.getLsbD i <;> rfl

theorem xor_left_cancel {a b c : BitVec 32} (h : a ^^^ b = a ^^^ c) : b = c := by
  have e : a ^^^ (a ^^^ b) = a ^^^ (a ^^^ c) := by rw [h]
  rw [← BitVec.xor_assoc, ← BitVec.xor_assoc, BitVec.xor_self] at e
  simpa using e
theorem byte_inj {n : BitVec 32} {a b : UInt8} (h : byte n a = byte n b) : a = b := by
  have h1 := xor_left_cancel (stepN_inj h)
  have ha := a.toNat_lt
  have hb := b.toNat_lt
  have h2 := congrArg BitVec.toNat h1
  simp only [BitVec.toNat_ofNat] at h2
  rw [Nat.mod_eq_of_lt (by omega), Nat.mod_eq_of_lt (by omega)] at h2
  exact UInt8.toNat_inj.1 h2
theorem sum_last (s : List UInt8) (a b : UInt8) : sum (s ++ [a]) = sum (s ++ [b]) ↔ a = b := by
  constructor
  · intro h
    have h1 := xor_left_cancel h
    rw [reg_append, reg_append] at h1
    exact byte_inj h1
  · rintro rfl; rfl

/-! bits, the least first -/
def bit (n : BitVec 32) (b : Bool) : BitVec 32 := step (n ^^^ (if b then 1#32 else 0#32))
def regBits (n : BitVec 32) (l : List Bool) : BitVec 32 := l.foldl bit n
def bitsLE : Nat → BitVec 32 → List Bool
  | 0, _ => []
  | k + 1, v => v.getLsbD 0 :: bitsLE k (v >>> 1)
theorem regBits_append (n : BitVec 32) (a b : List Bool) : regBits n (a ++ b) = regBits (regBits n a) b := by simp [regBits, List.foldl_append]
theorem step_split (n v : BitVec 32) : step (n ^^^ v) = bit n (v.getLsbD 0) ^^^ (v >>> 1) := by
  have hv : v = (if v.getLsbD 0 then 1#32 else 0#32) ^^^ ((v >>> 1) <<< 1) := by
    apply BitVec.eq_of_getLsbD_eq
    intro i hi
    rw [BitVec.getLsbD_xor, BitVec.getLsbD_shiftLeft, BitVec.getLsbD_ushiftRight]
    rcases Nat.eq_zero_or_pos i with rfl | hp
    · cases v.getLsbD 0 <;> simp
    · have e : 1 + (i - 1) = i := by omega
      have h1 : ¬ i < 1 := by omega
      have h2 : (1#32).getLsbD i = false := by
        rw [BitVec.getLsbD_ofNat, Nat.testBit_lt_two_pow (Nat.one_lt_two_pow (by omega))]
        simp
      have h3 : (0#32).getLsbD i = false := by simp
      cases v.getLsbD 0
      · rw [if_neg (by decide), h3]; simp [hi, e, h1]
      · rw [if_pos rfl, h2]; simp [hi, e, h1]
  have hs : step ((v >>> 1) <<< 1) = v >>> 1 := by
    rw [step_even _ (by rw [BitVec.getLsbD_shiftLeft]; simp)]
    apply BitVec.eq_of_getLsbD_eq
    intro i hi
    rw [BitVec.getLsbD_ushiftRight, BitVec.getLsbD_shiftLeft, BitVec.getLsbD_ushiftRight, BitVec.getLsbD_ushiftRight]
    by_cases h : 1 + i < 32
    · simp [h]
    · have h3 : i = 31 := by omega
      subst h3
      simp
  unfold bit
  conv => lhs; rw [hv]
  rw [← BitVec.xor_assoc, step_xor, hs]
theorem regBits_LE : ∀ (k : Nat) (n v : BitVec 32), stepN k (n ^^^ v) = regBits n (bitsLE k v) ^^^ (v >>> k)
  | 0, n, v => by simp [stepN, regBits, bitsLE]
  | k + 1, n, v => by
    simp only [stepN, bitsLE, regBits, List.foldl_cons]
    rw [step_split, regBits_LE k]
    rw [show k + 1 = 1 + k by omega, BitVec.shiftRight_add]
    rfl
theorem byte_bits (n : BitVec 32) (c : UInt8) : byte n c = regBits n (bitsLE 8 (BitVec.ofNat 32 c.toNat)) := by
  unfold byte
  rw [regBits_LE]
  have e : BitVec.ofNat 32 c.toNat >>> 8 = 0#32 := by
    apply BitVec.eq_of_getLsbD_eq
    intro i hi
    rw [BitVec.getLsbD_ushiftRight, BitVec.getLsbD_ofNat, Nat.testBit_lt_two_pow]
    · simp
    · exact Nat.lt_of_lt_of_le c.toNat_lt (Nat.pow_le_pow_right (by decide) (by omega))
  rw [e]; simp
theorem regBits_zeros : ∀ (k : Nat) (n : BitVec 32), regBits n (List.replicate k false) = stepN k n
  | 0, n => rfl
  | k + 1, n => by
    rw [List.replicate_succ]
    show regBits (bit n false) _ = _
    rw [regBits_zeros k]
    simp [stepN, bit]
theorem bitsLE_length : ∀ (k : Nat) (v : BitVec 32), (bitsLE k v).length = k
  | 0, _ => rfl
  | k + 1, v => by simp [bitsLE, bitsLE_length k]
theorem bitsLE_get : ∀ (k : Nat) (v : BitVec 32) (i : Nat) (h : i < k), (bitsLE k v)[i]'(by rw [bitsLE_length]; exact h) = v.getLsbD i
  | 0, _, i, h => absurd h (by omega)
  | k + 1, v, 0, h => by simp [bitsLE]
  | k + 1, v, i + 1, h => by
    simp only [bitsLE, List.getElem_cons_succ]
    rw [bitsLE_get k _ i (by omega), BitVec.getLsbD_ushiftRight, Nat.add_comm]

def bits (l : List UInt8) : List Bool := l.flatMap fun c => bitsLE 8 (BitVec.ofNat 32 c.toNat)
theorem reg_bits : ∀ (l : List UInt8) (n : BitVec 32), reg n l = regBits n (bits l)
  | [], n => rfl
  | c :: l, n => by
    rw [reg_cons, reg_bits l, byte_bits]
    show _ = regBits n (bitsLE 8 _ ++ bits l)
    rw [regBits_append]
theorem bits_length : ∀ l : List UInt8, (bits l).length = 8 * l.length
  | [] => rfl
  | c :: l => by
    show (bitsLE 8 _ ++ bits l).length = _
    rw [List.length_append, bits_length l, bitsLE_length, List.length_cons]; omega
theorem bits_get : ∀ (l : List UInt8) (i : Nat) (h : i < (bits l).length), (bits l)[i] = (l.getD (i / 8) 0).toNat.testBit (i % 8)
  | [], i, h => absurd h (by simp [bits])
  | c :: l, i, h => by
    have e : bits (c :: l) = bitsLE 8 (BitVec.ofNat 32 c.toNat) ++ bits l := rfl
    simp only [e]
    rw [List.getElem_append]
    by_cases hi : i < 8
    · rw [dif_pos (by rw [bitsLE_length]; exact hi), bitsLE_get 8 _ i hi, BitVec.getLsbD_ofNat]
      have h1 : i / 8 = 0 := by omega
      have h2 : i % 8 = i := by omega
      rw [h1, h2]
      simp; omega
    · rw [dif_neg (by rw [bitsLE_length]; exact hi)]
      simp only [bitsLE_length]
      rw [bits_get l (i - 8)]
      have h1 : i / 8 = (i - 8) / 8 + 1 := by omega
      have h2 : (i - 8) % 8 = i % 8 := by omega
      rw [h1, h2]
      simp

/-- A burst: of two texts that part in at most 32 bits side by side, from bit k on, by by's bits, the sums' registers part if by is not nought. -/
theorem burst (p q : List UInt8) (hl : p.length = q.length) (k : Nat) (v : BitVec 32) (hk : k + 32 ≤ 8 * p.length)
    (hb : ∀ t, t < 8 * p.length → (q.getD (t / 8) 0).toNat.testBit (t % 8) = ((p.getD (t / 8) 0).toNat.testBit (t % 8) ^^ (decide (k ≤ t) && v.getLsbD (t - k)))) (n : BitVec 32) (h : reg n p = reg n q) : v = 0#32 := by
  have e1 : reg (n ^^^ n) (List.zipWith (· ^^^ ·) p q) = 0#32 := by rw [reg_xor _ _ _ _ hl, h, BitVec.xor_self]
  rw [BitVec.xor_self, reg_bits] at e1
  have hlen : (List.zipWith (· ^^^ ·) p q).length = p.length := by simp [hl]
  have e2 : bits (List.zipWith (· ^^^ ·) p q) = List.replicate k false ++ (bitsLE 32 v ++ List.replicate (8 * p.length - k - 32) false) := by
    apply List.ext_getElem
    · rw [bits_length, hlen]
      simp [bitsLE_length]
      omega
    · intro i h1 h2
      have hi : i < 8 * p.length := by rw [bits_length, hlen] at h1; exact h1
      rw [bits_get]
      have hj : i / 8 < p.length := by omega
      have hj2 : i / 8 < q.length := by omega
      have e3 : (List.zipWith (· ^^^ ·) p q).getD (i / 8) 0 = p.getD (i / 8) 0 ^^^ q.getD (i / 8) 0 := by
        rw [List.getD_eq_getElem?_getD, List.getElem?_eq_getElem (by rw [hlen]; exact hj), List.getElem_zipWith]
        simp [List.getD_eq_getElem?_getD, hj, hj2]
      rw [e3, UInt8.toNat_xor, Nat.testBit_xor, hb i hi]
      have e4 : ∀ x y : Bool, (x ^^ (x ^^ y)) = y := by decide
      rw [e4]
      rw [List.getElem_append]
      by_cases hik : i < k
      · rw [dif_pos (by simpa using hik)]
        simp; omega
      · rw [dif_neg (by simpa using hik), List.getElem_append]
        simp only [List.length_replicate, bitsLE_length]
        have hki : k ≤ i := by omega
        by_cases h32 : i - k < 32
        · rw [dif_pos h32, bitsLE_get 32 v _ h32]
          simp [hki]
        · rw [dif_neg h32]
          simp [hki]
          exact BitVec.getLsbD_of_ge _ _ (by omega)
  rw [e2, regBits_append, regBits_append, regBits_zeros, regBits_zeros, stepN_zero] at e1
  have e5 := stepN_eq_zero _ e1
  have e6 := regBits_LE 32 0#32 v
  rw [e5] at e6
  have e7 : v >>> 32 = 0#32 := by
    apply BitVec.eq_of_getLsbD_eq
    intro i hi
    rw [BitVec.getLsbD_ushiftRight]
    simp
  rw [e7] at e6
  simp only [BitVec.xor_zero, BitVec.zero_xor] at e6
  exact stepN_eq_zero 32 (by simpa using e6)

/-! a text with its sum behind it -/
def le4 (v : BitVec 32) : List UInt8 := [UInt8.ofNat (v.toNat % 256), UInt8.ofNat (v.toNat / 256 % 256), UInt8.ofNat (v.toNat / 65536 % 256), UInt8.ofNat (v.toNat / 16777216 % 256)]
def put (s : List UInt8) : List UInt8 := s ++ le4 (sum s)
theorem le4_length (v : BitVec 32) : (le4 v).length = 4 := rfl
theorem le4_inj {v w : BitVec 32} (h : le4 v = le4 w) : v = w := by
  unfold le4 at h
  simp only [List.cons.injEq, and_true] at h
  obtain ⟨h0, h1, h2, h3⟩ := h
  have g : ∀ a b : Nat, UInt8.ofNat (a % 256) = UInt8.ofNat (b % 256) → a % 256 = b % 256 := by
    intro a b hab
    have := congrArg UInt8.toNat hab
    simpa using this
  have g0 := g _ _ h0
  have g1 := g _ _ h1
  have g2 := g _ _ h2
  have g3 := g _ _ h3
  have hv := v.isLt
  have hw := w.isLt
  apply BitVec.eq_of_toNat_eq
  omega
theorem bits_le4 (v : BitVec 32) : bits (le4 v) = bitsLE 32 v := by
  apply List.ext_getElem
  · rw [bits_length, bitsLE_length]; rfl
  · intro i h1 h2
    have hi : i < 32 := by rw [bitsLE_length] at h2; exact h2
    rw [bits_get, bitsLE_get 32 v i hi, ← BitVec.testBit_toNat]
    have hd : i / 8 = 0 ∨ i / 8 = 1 ∨ i / 8 = 2 ∨ i / 8 = 3 := by omega
    rcases hd with hd | hd | hd | hd <;> rw [hd] <;> simp only [le4, List.getD_cons_zero, List.getD_cons_succ, UInt8.toNat_ofNat']
    · rw [Nat.mod_mod, show (256 : Nat) = 2 ^ 8 from rfl, Nat.testBit_mod_two_pow]
      have : i % 8 = i := by omega
      rw [this]; simp; omega
    · rw [Nat.mod_mod, show (256 : Nat) = 2 ^ 8 from rfl, Nat.testBit_mod_two_pow, Nat.testBit_div_two_pow]
      have : 8 + i % 8 = i := by omega
      rw [Nat.add_comm] at this
      simp [this]; omega
    · rw [Nat.mod_mod, show (256 : Nat) = 2 ^ 8 from rfl, show (65536 : Nat) = 2 ^ 16 from rfl, Nat.testBit_mod_two_pow, Nat.testBit_div_two_pow]
      have : i % 8 + 16 = i := by omega
      simp [this]; omega
    · rw [Nat.mod_mod, show (256 : Nat) = 2 ^ 8 from rfl, show (16777216 : Nat) = 2 ^ 24 from rfl, Nat.testBit_mod_two_pow, Nat.testBit_div_two_pow]
      have : i % 8 + 24 = i := by omega
      simp [this]; omega
theorem reg_le4 (n v : BitVec 32) : reg n (le4 v) = stepN 32 (n ^^^ v) := by
  rw [reg_bits, bits_le4, regBits_LE]
  have e7 : v >>> 32 = 0#32 := by
    apply BitVec.eq_of_getLsbD_eq
    intro i hi
    rw [BitVec.getLsbD_ushiftRight]
    simp
  rw [e7]; simp
/-- Behind its own sum each text leaves the same register. -/
theorem reg_put (s : List UInt8) : reg full (put s) = stepN 32 full := by
  unfold put
  rw [reg_append, reg_le4, sum, BitVec.xor_comm full, ← BitVec.xor_assoc, BitVec.xor_self]
  simp
/-- And only then. -/
theorem put_of_reg (s t : List UInt8) (ht : t.length = 4) (v : BitVec 32) (hv : t = le4 v) (h : reg full (s ++ t) = stepN 32 full) : t = le4 (sum s) := by
  subst hv
  rw [reg_append, reg_le4] at h
  have h1 := stepN_inj h
  have h2 : v = sum s := by
    unfold sum
    generalize reg full s = a at h1
    rw [← h1, BitVec.xor_comm a v, BitVec.xor_assoc, BitVec.xor_self]
    simp
  rw [h2]

end Go.Proofs.Ythhigjfkekdmiaa.Crc
