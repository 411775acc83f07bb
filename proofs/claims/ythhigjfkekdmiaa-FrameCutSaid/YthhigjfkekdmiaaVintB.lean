/- Numbers in bytes: what the program's and the reference's Put and Get compute, as one. -/
import Derived.Test.YthhigjfkekdmiaaCrcB
import Derived.Test.YthhigjfkekdmiaaM10
import Derived.Test.YthhigjfkekdmiaaM12
import Derived.Test.YthhigjfkekdmiaaM16
set_option linter.unusedSimpArgs false
set_option linter.unusedVariables false
namespace Go.Proofs.Ythhigjfkekdmiaa.B
open Go.RowKit Go.Proofs.Ythhigjfkekdmiaa Go.Proofs.Ythhigjfkekdmiaa.M Go.Proofs.YthhigjfkekdmiaaW.PrintWords Go.Proofs.YthhigjfkekdmiaaW.PrintLast Go.Proofs.YthhigjfkekdmiaaW.PrintMore

def I64 (n : Int) : Prop := -9223372036854775808 ≤ n ∧ n < 9223372036854775808
def zz (n : Int) : Nat := if n < 0 then (-2 * n - 1).toNat else (2 * n).toNat
theorem zz_lt {n : Int} (h : I64 n) : zz n < 18446744073709551616 := by
  obtain ⟨h0, h1⟩ := h
  unfold zz
  split <;> omega
def leb (u : Nat) : List UInt8 := if h : u < 128 then [UInt8.ofNat u] else UInt8.ofNat (u % 128 + 128) :: leb (u / 128)
termination_by u
theorem leb_small {u : Nat} (h : u < 128) : leb u = [UInt8.ofNat u] := by rw [leb, dif_pos h]
theorem leb_big {u : Nat} (h : 128 ≤ u) : leb u = UInt8.ofNat (u % 128 + 128) :: leb (u / 128) := by rw [leb, dif_neg (by omega)]

theorem or128 : ∀ x : Fin 256, (x.val ||| 128) = x.val % 128 + 128 := by decide +kernel
theorem or_u8 (u : Nat) : Go.bits .or .u8 ((u : Int) % 256) 128 = ((u % 128 + 128 : Nat) : Int) := by
  have h := (bits_nat .u8 8 (by decide) (fun n h0 h1 => by rw [IntKind.wrap_u8]; have : (2 : Int) ^ 8 = 256 := by decide
                                                           omega) (u % 256) 128 (by have : (2 : Nat) ^ 8 = 256 := rfl
                                                                                    omega) (by decide)).2
  rw [show ((128 : Nat) : Int) = 128 from rfl] at h
  have e : (u : Int) % 256 = ((u % 256 : Nat) : Int) := by omega
  rw [e, h, or128 ⟨u % 256, Nat.mod_lt _ (by decide)⟩]
  show ((u % 256 % 128 + 128 : Nat) : Int) = _
  omega
theorem wrap_u64 (n : Int) : IntKind.u64.wrap n = n % 18446744073709551616 := by simp [IntKind.wrap, IntKind.bits, IntKind.signed]
theorem xor_u64 (a b : Nat) (ha : a < 18446744073709551616) (hb : b < 18446744073709551616) : Go.bits .xor .u64 (a : Int) (b : Int) = ((a ^^^ b : Nat) : Int) := by
  have e : IntKind.u64.bits = 64 := rfl
  have hp : (2 : Nat) ^ 64 = 18446744073709551616 := by decide
  have hx : a ^^^ b < 2 ^ 64 := Nat.xor_lt_two_pow (by omega) (by omega)
  unfold Go.bits
  simp only [BitVec.ofInt_natCast, BitVec.toNat_xor, BitVec.toNat_ofNat, e]
  rw [Nat.mod_eq_of_lt (by omega), Nat.mod_eq_of_lt (by omega), wrap_u64]
  omega
theorem xor_ones (a : Nat) (ha : a < 18446744073709551616) : a ^^^ 18446744073709551615 = 18446744073709551615 - a := by
  have h : (BitVec.ofNat 64 a ^^^ BitVec.allOnes 64).toNat = (~~~ BitVec.ofNat 64 a).toNat := by rw [BitVec.xor_allOnes]
  rw [BitVec.toNat_xor, BitVec.toNat_not, BitVec.toNat_ofNat, Nat.mod_eq_of_lt (by have : (2 : Nat) ^ 64 = 18446744073709551616 := by decide
                                                                                   omega)] at h
  have e : (BitVec.allOnes 64).toNat = 18446744073709551615 := by decide
  have hp : (2 : Nat) ^ 64 = 18446744073709551616 := by decide
  rw [e, hp] at h
  omega
theorem folded_f {n : Int} (h : I64 n) : vint_folded.f n = some (zz n : Int) := by
  obtain ⟨h0, h1⟩ := h
  unfold vint_folded.f
  refine congrArg some ?_
  rw [wrap_u64, wrap_u64, wrap_u64]
  by_cases hn : n < 0
  · have e1 : n / 9223372036854775808 % 18446744073709551616 = ((18446744073709551615 : Nat) : Int) := by omega
    have e2 : n % 18446744073709551616 * 2 % 18446744073709551616 = ((18446744073709551616 + 2 * n).toNat : Int) := by omega
    rw [e1, e2, xor_u64 _ _ (by omega) (by omega), xor_ones _ (by omega)]
    unfold zz
    rw [if_pos hn]
    omega
  · have e1 : n / 9223372036854775808 % 18446744073709551616 = ((0 : Nat) : Int) := by omega
    have e2 : n % 18446744073709551616 * 2 % 18446744073709551616 = ((2 * n).toNat : Int) := by omega
    rw [e1, e2, xor_u64 _ _ (by omega) (by omega), Nat.xor_zero]
    unfold zz
    rw [if_neg hn]
theorem unsigned_f {n : Int} (h : I64 n) : boomerangref1_unsigned.f n = some (zz n : Int) := by
  obtain ⟨h0, h1⟩ := h
  unfold boomerangref1_unsigned.f zz
  by_cases hn : n < 0
  · rw [if_pos hn, if_pos hn]
    refine congrArg some ?_
    rw [wrap_id (x := n + 1) (by omega) (by omega), wrap_id (x := -(n + 1)) (by omega) (by omega), wrap_u64, wrap_u64, wrap_u64]
    omega
  · rw [if_neg hn, if_neg hn]
    refine congrArg some ?_
    rw [wrap_u64, wrap_u64]
    omega
theorem putl0 : ∀ (d : Nat) (u : Nat) (x : List Int) (k : Nat), u < 128 ^ (d + 1) → d < k → x.length + d < 100 → vint_Put.l0 k x (u : Int) = some (ofL ((x.map fun n => UInt8.ofNat n.toNat) ++ leb u))
  | d, u, x, k, hu, hk, hx => by
    obtain ⟨k, rfl⟩ : ∃ m, k = m + 1 := ⟨k - 1, by omega⟩
    simp only [vint_Put.l0]
    by_cases h : u < 128
    · rw [if_neg (by omega), if_pos (by omega), leb_small h]
      refine congrArg some (eq_ofL ?_)
      rw [L_nums, List.map_append]
      have e : ((u : Int) % 256).toNat = u := by omega
      simp [e]
    · rw [if_pos (by omega), if_pos (by omega), leb_big (by omega), or_u8]
      match d, hu, hk, hx with
      | 0, hu, _, _ => exact absurd hu (by omega)
      | d + 1, hu, hk, hx =>
        have hd : u / 128 < 128 ^ (d + 1) := by
          rw [Nat.div_lt_iff_lt_mul (by decide)]
          rw [Nat.pow_succ] at hu
          exact hu
        have e : (u : Int) / 128 = ((u / 128 : Nat) : Int) := by omega
        rw [e, putl0 d (u / 128) _ k hd (by omega) (by simp; omega)]
        refine congrArg (fun l => some (ofL l)) ?_
        rw [List.map_append, List.append_assoc]
        rfl
theorem ref_putl0 : ∀ (k : Nat) (x : List Int) (u : Int), boomerangref1_Put.l0 k u x = vint_Put.l0 k x u
  | 0, _, _ => rfl
  | k + 1, x, u => by
    simp only [boomerangref1_Put.l0, vint_Put.l0]
    rw [ref_putl0 k]
theorem vput_f {n : Int} (h : I64 n) (k : Nat) (hk : 10 ≤ k) : vint_Put.f k n = some (ofL (leb (zz n))) := by
  unfold vint_Put.f
  rw [folded_f h, Option.bind_some]
  have hz := zz_lt h
  have h128 : (128 : Nat) ^ 10 = 1180591620717411303424 := by decide
  rw [putl0 9 (zz n) [] k (by omega) (by omega) (by decide)]
  rfl
theorem ref_vput_f {n : Int} (h : I64 n) (k : Nat) (hk : 10 ≤ k) : boomerangref1_Put.f k n = some (ofL (leb (zz n))) := by
  rw [← vput_f h k hk]
  unfold boomerangref1_Put.f vint_Put.f
  rw [unsigned_f h, folded_f h, Option.bind_some, Option.bind_some, ref_putl0]
theorem leb_len : ∀ (d u : Nat), u < 128 ^ (d + 1) → (leb u).length ≤ d + 1 ∧ 0 < (leb u).length
  | d, u, hu => by
    by_cases h : u < 128
    · rw [leb_small h]; simp
    · rw [leb_big (by omega)]
      match d, hu with
      | 0, hu => exact absurd hu (by omega)
      | d + 1, hu =>
        have hd : u / 128 < 128 ^ (d + 1) := by
          rw [Nat.div_lt_iff_lt_mul (by decide)]
          rw [Nat.pow_succ] at hu
          exact hu
        have := leb_len d (u / 128) hd
        simp only [List.length_cons]
        omega
theorem vput_len {n : Int} (h : I64 n) : (leb (zz n)).length ≤ 10 ∧ 0 < (leb (zz n)).length := by
  have hz := zz_lt h
  have h128 : (128 : Nat) ^ 10 = 1180591620717411303424 := by decide
  exact leb_len 9 _ (by omega)

/-! Get -/
def orOf (u : Int) (c : UInt8) (i : Nat) : Int := Go.bits .or .u64 u (shl .u64 (IntKind.u64.wrap (Go.bits .and .u8 (c.toNat : Int) 127)) ((7 * i : Nat) : Int))
def unz (u : Int) : Int := if u % 2 = 1 then -(u / 2) - 1 else u / 2
def scan (l : List UInt8) : Nat → Nat → Int → Int × Int × Int
  | 0, _, _ => (0, 0, 4)
  | d + 1, i, u => if l.length ≤ i then (0, 0, 3) else
      if 128 ≤ (l.getD i 0).toNat then scan l d (i + 1) (orOf u (l.getD i 0) i) else
        if leb (zz (unz (orOf u (l.getD i 0) i))) = l.take (i + 1) then (unz (orOf u (l.getD i 0) i), ((i + 1 : Nat) : Int), 0) else (0, 0, 4)
theorem or_range (a b : Int) : 0 ≤ Go.bits .or .u64 a b ∧ Go.bits .or .u64 a b < 18446744073709551616 := by
  unfold Go.bits
  rw [wrap_u64]
  omega
theorem and_one (u : Int) (h0 : 0 ≤ u) (h1 : u < 18446744073709551616) : Go.bits .and .u64 u 1 = u % 2 := by
  obtain ⟨v, rfl⟩ : ∃ v : Nat, u = (v : Int) := ⟨u.toNat, by omega⟩
  have hp : (2 : Nat) ^ 64 = 18446744073709551616 := by decide
  have h := (bits_nat .u64 64 (by decide) (fun n h0 h1 => by rw [wrap_u64]; have : (2 : Int) ^ 64 = 18446744073709551616 := by decide
                                                             omega) v 1 (by omega) (by decide)).1
  rw [show ((1 : Nat) : Int) = 1 from rfl] at h
  rw [h, Nat.and_one_is_mod]
  omega
theorem xor_i64_zero (x : Int) (h : I64 x) : Go.bits .xor .i64 x 0 = x := by
  obtain ⟨h0, h1⟩ := h
  unfold Go.bits
  have e : IntKind.i64.bits = 64 := rfl
  have hp : ((2 ^ 64 : Nat) : Int) = 18446744073709551616 := by decide
  rw [e, show BitVec.ofInt 64 0 = 0#64 from rfl]
  simp only [BitVec.xor_zero, BitVec.toNat_ofInt]
  rw [hp, IntKind.wrap_i64]
  omega
theorem xor_i64_ones (x : Int) (h : I64 x) : Go.bits .xor .i64 x (-1) = -x - 1 := by
  obtain ⟨h0, h1⟩ := h
  unfold Go.bits
  have e : IntKind.i64.bits = 64 := rfl
  have hp : ((2 ^ 64 : Nat) : Int) = 18446744073709551616 := by decide
  have hn : (2 : Nat) ^ 64 = 18446744073709551616 := by decide
  rw [e, show BitVec.ofInt 64 (-1) = BitVec.allOnes 64 by decide]
  simp only [BitVec.xor_allOnes, BitVec.toNat_not, BitVec.toNat_ofInt]
  rw [hp, hn, IntKind.wrap_i64]
  omega
theorem unz_prog (u : Int) (h0 : 0 ≤ u) (h1 : u < 18446744073709551616) : Go.bits .xor .i64 (wrap64 (u / 2)) (wrap64 (-(wrap64 (Go.bits .and .u64 u 1)))) = unz u := by
  rw [and_one u h0 h1, wrap_id (x := u / 2) (by omega) (by omega), wrap_id (x := u % 2) (by omega) (by omega), wrap_id (x := -(u % 2)) (by omega) (by omega)]
  unfold unz
  have hi : I64 (u / 2) := ⟨by omega, by omega⟩
  by_cases h : u % 2 = 1
  · rw [if_pos h, h, xor_i64_ones _ hi]
  · rw [if_neg h, show u % 2 = 0 by omega]
    exact xor_i64_zero _ hi
theorem unz_i64 (u : Int) (h0 : 0 ≤ u) (h1 : u < 18446744073709551616) : I64 (unz u) := by
  unfold unz I64
  split <;> omega
theorem orOf_range (u : Int) (c : UInt8) (i : Nat) : 0 ≤ orOf u c i ∧ orOf u c i < 18446744073709551616 := or_range _ _
theorem L_take_extract (s : ByteArray) (n : Nat) : L (s.extract 0 n) = (L s).take n := by rw [L_extract, List.drop_zero]
theorem bt_ge (s : ByteArray) (i : Nat) (h : i < s.size) : (bt s (i : Int) ≥ 128) ↔ 128 ≤ ((L s).getD i 0).toNat := by rw [bt_L s i h]; omega
theorem read_l0 (s : ByteArray) (hs : s.size ≤ 9223372036854770000) : ∀ (d i : Nat) (u : Int) (k : Nat), i + d = 10 → 11 + d ≤ k → i ≤ s.size →
    vint_read.l0 k s u (mn (s.size : Int) 10) (i : Int) = some (scan (L s) d i u)
  | d, i, u, k, hd, hk, hi => by
    obtain ⟨k, rfl⟩ : ∃ m, k = m + 1 := ⟨k - 1, by omega⟩
    have hm : mn (s.size : Int) 10 = if 10 < s.size then 10 else (s.size : Int) := by unfold mn; split <;> split <;> omega
    by_cases hlt : i < s.size ∧ i < 10
    · obtain ⟨d, rfl⟩ : ∃ m, d = m + 1 := ⟨d - 1, by omega⟩
      have hor := orOf_range u ((L s).getD i 0) i
      have ho : Go.bits .or .u64 u (shl .u64 (IntKind.u64.wrap (Go.bits .and .u8 (bt s (i : Int)) 127)) (wrap64 (7 * (i : Int)))) = orOf u ((L s).getD i 0) i := by
        unfold orOf
        rw [bt_L s i hlt.1, wrap_id (by omega) (by omega)]
        rfl
      have hw : wrap64 ((i : Int) + 1) = ((i + 1 : Nat) : Int) := by rw [wrap_id (by omega) (by omega)]; omega
      have hw7 : 0 ≤ wrap64 (7 * (i : Int)) := by rw [wrap_id (by omega) (by omega)]; omega
      have hnl : ¬ (L s).length ≤ i := by rw [L_len]; omega
      simp only [vint_read.l0, scan]
      rw [if_pos (by rw [hm]; split <;> omega), if_pos (by omega), if_pos (by omega), if_pos hw7, ho, hw, if_neg hnl]
      by_cases hc : 128 ≤ ((L s).getD i 0).toNat
      · rw [if_pos ((bt_ge s i hlt.1).2 hc), if_pos hc]
        exact read_l0 s hs d (i + 1) _ k (by omega) (by omega) (by omega)
      · rw [if_neg (fun h => hc ((bt_ge s i hlt.1).1 h)), if_neg hc, unz_prog _ hor.1 hor.2, vput_f (unz_i64 _ hor.1 hor.2) k (by omega), Option.bind_some, if_pos (by omega), if_pos (by omega)]
        have ec : ((i + 1 : Nat) : Int).toNat = i + 1 := by omega
        rw [ec]
        by_cases hp : leb (zz (unz (orOf u ((L s).getD i 0) i))) = (L s).take (i + 1)
        · rw [if_pos (by rw [toList_eq_iff, L_ofL, L_take_extract]; exact hp), if_pos hp]
        · rw [if_neg (by rw [toList_eq_iff, L_ofL, L_take_extract]; exact hp), if_neg hp]
    · have hge : ¬ ((i : Int) < mn (s.size : Int) 10) := by rw [hm]; split <;> omega
      simp only [vint_read.l0]
      rw [if_neg hge]
      by_cases h10 : i = 10
      · obtain rfl : d = 0 := by omega
        rw [if_neg (by omega)]
        rfl
      · obtain ⟨d, rfl⟩ : ∃ m, d = m + 1 := ⟨d - 1, by omega⟩
        rw [if_pos (by omega)]
        simp only [scan]
        rw [if_pos (by rw [L_len]; omega)]
def readS (l : List UInt8) : Int × Int × Int := scan l 10 0 0
theorem read_f (s : ByteArray) (hs : s.size ≤ 9223372036854770000) (k : Nat) (hk : 21 ≤ k) : vint_read.f k s = some (readS (L s)) := by
  unfold vint_read.f readS
  exact read_l0 s hs 10 0 0 k (by omega) hk (by omega)
/-- The number at a place, the place behind it, the error; the program's and the reference's. -/
def fin (a : Nat) (x : Int × Int × Int) : Int × Int × Int := if x.2.2 = 0 then (x.1, (a : Int) + x.2.1, 0) else (0, 0, x.2.2)
def getS (l : List UInt8) (at_ : Nat) : Int × Int × Int := fin at_ (readS (l.drop at_))
theorem fin_three (a : Nat) : fin a (0, 0, 3) = (0, 0, 3) := rfl
theorem fin_four (a : Nat) : fin a (0, 0, 4) = (0, 0, 4) := rfl
theorem fin_ok (a : Nat) (n m : Int) : fin a (n, m, 0) = (n, (a : Int) + m, 0) := rfl
theorem scan_facts (l : List UInt8) : ∀ (d i : Nat) (u : Int), i + d = 10 → i ≤ l.length → ((scan l d i u).2.2 ≠ 0 → (scan l d i u).1 = 0 ∧ (scan l d i u).2.1 = 0) ∧ ((scan l d i u).2.2 = 0 → 1 ≤ (scan l d i u).2.1 ∧ (scan l d i u).2.1 ≤ l.length ∧ I64 (scan l d i u).1) ∧ 0 ≤ (scan l d i u).2.2 ∧ (scan l d i u).2.2 ≤ 4
  | 0, i, u, _, _ => by simp [scan]
  | d + 1, i, u, hd, hi => by
    simp only [scan]
    by_cases h1 : l.length ≤ i
    · rw [if_pos h1]; simp
    · rw [if_neg h1]
      by_cases h2 : 128 ≤ (l.getD i 0).toNat
      · rw [if_pos h2]; exact scan_facts l d (i + 1) _ (by omega) (by omega)
      · rw [if_neg h2]
        have hor := orOf_range u (l.getD i 0) i
        split
        · refine ⟨fun h => absurd rfl h, fun _ => ⟨?_, ?_, unz_i64 _ hor.1 hor.2⟩, ?_, ?_⟩ <;> dsimp only <;> omega
        · simp
theorem readS_facts (l : List UInt8) : ((readS l).2.2 ≠ 0 → (readS l).1 = 0 ∧ (readS l).2.1 = 0) ∧ ((readS l).2.2 = 0 → 1 ≤ (readS l).2.1 ∧ (readS l).2.1 ≤ l.length ∧ I64 (readS l).1) ∧ 0 ≤ (readS l).2.2 ∧ (readS l).2.2 ≤ 4 :=
  scan_facts l 10 0 0 (by omega) (Nat.zero_le _)
theorem vget_f (s : ByteArray) (hs : s.size ≤ 9223372036854770000) (i : Nat) (hi : i ≤ s.size) (k : Nat) (hk : 22 ≤ k) : vint_Get.f k s (i : Int) = some (getS (L s) i) := by
  obtain ⟨k, rfl⟩ : ∃ m, k = m + 1 := ⟨k - 1, by omega⟩
  have hsub : L (s.extract i s.size) = (L s).drop i := by rw [L_extract, List.take_of_length_le (by rw [L_len]; omega)]
  have hf := readS_facts ((L s).drop i)
  unfold vint_Get.f vint_placed_int.f
  rw [if_neg (by omega), decide_eq_false (by omega)]
  simp only [vint_placed_int.j0]
  rw [if_neg (by decide), if_pos (by omega), if_pos (by omega)]
  have ec : ((i : Nat) : Int).toNat = i := by omega
  rw [ec, read_f _ (by rw [← L_len, hsub, List.length_drop, L_len]; omega) k (by omega), hsub, Option.bind_some]
  unfold getS fin
  have hl : ((L s).drop i).length = s.size - i := by rw [List.length_drop, L_len]
  rw [hl] at hf
  by_cases h0 : (readS ((L s).drop i)).2.2 = 0
  · have h2 := hf.2.1 h0
    have h2a : 1 ≤ (readS ((L s).drop i)).2.1 := h2.1
    have h2b : (readS ((L s).drop i)).2.1 ≤ ((s.size - i : Nat) : Int) := h2.2.1
    rw [if_pos h0, if_pos h0, Option.bind_some, wrap_id (by omega) (by omega)]
  · have h2 := (hf.1 h0).1
    have h2a : (readS ((L s).drop i)).1 = 0 := h2
    rw [if_neg h0, if_neg h0, Option.bind_some, h2a]
theorem w_add (a b : Nat) (h : a + b ≤ 9223372036854775807) : wrap64 ((a : Int) + (b : Int)) = ((a + b : Nat) : Int) := by rw [wrap_id (by omega) (by omega)]; omega
theorem w_succ (a : Nat) (h : a + 1 ≤ 9223372036854775807) : wrap64 ((a : Int) + 1) = ((a + 1 : Nat) : Int) := by rw [wrap_id (by omega) (by omega)]; omega
theorem w_mul7 (a : Nat) (h : 7 * a ≤ 9223372036854775807) : wrap64 (7 * (a : Int)) = ((7 * a : Nat) : Int) := by rw [wrap_id (by omega) (by omega)]; omega
theorem odd_unz (v : Int) (v0 : 0 ≤ v) (v1 : v < 18446744073709551616) (h : v % 2 = 1) : wrap64 (wrap64 (-(wrap64 (v / 2))) - 1) = unz v := by
  unfold unz
  rw [if_pos h, wrap_id (x := v / 2) (by omega) (by omega), wrap_id (x := -(v / 2)) (by omega) (by omega), wrap_id (by omega) (by omega)]
theorem even_unz (v : Int) (v0 : 0 ≤ v) (v1 : v < 18446744073709551616) (h : ¬ v % 2 = 1) : wrap64 (v / 2) = unz v := by
  unfold unz
  rw [if_neg h, wrap_id (by omega) (by omega)]
theorem ref_get_l0 (s : ByteArray) (hs : s.size ≤ 9223372036854770000) (a : Nat) (ha : a ≤ s.size) : ∀ (d i : Nat) (u : Int) (k : Nat), i + d = 10 → 11 + d ≤ k →
    boomerangref1_Get.l0 k s (a : Int) u (i : Int) = some (fin a (scan ((L s).drop a) d i u))
  | 0, i, u, k, hd, hk => by
    obtain ⟨k, rfl⟩ : ∃ m, k = m + 1 := ⟨k - 1, by omega⟩
    simp only [boomerangref1_Get.l0, scan]
    rw [if_neg (by omega), fin_four]
  | d + 1, i, u, k, hd, hk => by
    obtain ⟨k, rfl⟩ : ∃ m, k = m + 1 := ⟨k - 1, by omega⟩
    have hlen : ((L s).drop a).length = s.size - a := by rw [List.length_drop, L_len]
    have q1 : (i : Int) < 10 := by omega
    have q2 : a + i ≤ 9223372036854775807 := by omega
    have q3 : 7 * i ≤ 9223372036854775807 := by omega
    have q4 : i + 1 ≤ 9223372036854775807 := by omega
    have q5 : a + i + 1 ≤ 9223372036854775807 := by omega
    have g1 : (0 : Int) ≤ (a : Int) := by omega
    have g2 : (a : Int) ≤ ((a + i + 1 : Nat) : Int) := by omega
    have g4 : i + 1 + d = 10 := by omega
    have g5 : 11 + d ≤ k := by omega
    have g6 : 10 ≤ k := by omega
    have et1 : ((a : Nat) : Int).toNat = a := by omega
    have et2 : ((a + i + 1 : Nat) : Int).toNat = a + i + 1 := by omega
    have et3 : ((a + i + 1 : Nat) : Int) = (a : Int) + ((i + 1 : Nat) : Int) := by omega
    have g7 : (0 : Int) ≤ ((7 * i : Nat) : Int) := by omega
    have g8 : (0 : Int) ≤ ((a + i : Nat) : Int) := by omega
    simp only [boomerangref1_Get.l0, scan]
    rw [if_pos q1, w_add a i q2, hlen]
    by_cases h1 : s.size ≤ a + i
    · rw [if_pos (show ((a + i : Nat) : Int) ≥ (s.size : Int) by omega), if_pos (show s.size - a ≤ i by omega), fin_three]
    · have f1 : a + i < s.size := by omega
      have f2 : ¬ ((a + i : Nat) : Int) ≥ (s.size : Int) := by omega
      have f3 : ((a + i : Nat) : Int) < (s.size : Int) := by omega
      have f4 : ¬ s.size - a ≤ i := by omega
      have g3 : ((a + i + 1 : Nat) : Int) ≤ (s.size : Int) := by omega
      have hex : L (s.extract a (a + i + 1)) = ((L s).drop a).take (i + 1) := by
        rw [L_extract, List.drop_take]; congr 1; omega
      have hg : ((L s).drop a).getD i 0 = (L s).getD (a + i) 0 := by simp [List.getD_eq_getElem?_getD]
      rw [if_neg f2, if_pos g8, if_pos f3, if_neg f4, w_mul7 i q3, if_pos g7, w_succ i q4, w_succ (a + i) q5, bt_L s (a + i) f1, hg]
      have ho : Go.bits .or .u64 u (shl .u64 (IntKind.u64.wrap (Go.bits .and .u8 (((L s).getD (a + i) 0).toNat : Int) 127)) ((7 * i : Nat) : Int)) = orOf u ((L s).getD (a + i) 0) i := rfl
      rw [ho]
      clear ho
      have hor := orOf_range u ((L s).getD (a + i) 0) i
      have hui := unz_i64 _ hor.1 hor.2
      have ha1 := and_one _ hor.1 hor.2
      by_cases hc : 128 ≤ ((L s).getD (a + i) 0).toNat
      · rw [if_neg (show ¬ (((L s).getD (a + i) 0).toNat : Int) < 128 from fun h => absurd hc (by clear ha1 hui hor; omega)), if_pos hc]
        exact ref_get_l0 s hs a ha d (i + 1) _ k g4 g5
      · rw [if_pos (show (((L s).getD (a + i) 0).toNat : Int) < 128 by clear ha1 hui hor; omega), if_neg hc, ha1]
        clear hc ha1
        generalize orOf u ((L s).getD (a + i) 0) i = v at *
        obtain ⟨v0, v1⟩ := hor
        by_cases hodd : v % 2 = 1
        · rw [if_pos hodd, odd_unz v v0 v1 hodd, ref_vput_f hui k g6, Option.bind_some, if_pos g1, if_pos g2, if_pos g3, et1, et2]
          by_cases hp : leb (zz (unz v)) = ((L s).drop a).take (i + 1)
          · rw [if_pos (by rw [toList_eq_iff, L_ofL, hex]; exact hp), if_pos hp, fin_ok, et3]
          · rw [if_neg (by rw [toList_eq_iff, L_ofL, hex]; exact hp), if_neg hp, fin_four]
        · rw [if_neg hodd, even_unz v v0 v1 hodd, ref_vput_f hui k g6, Option.bind_some, if_pos g1, if_pos g2, if_pos g3, et1, et2]
          by_cases hp : leb (zz (unz v)) = ((L s).drop a).take (i + 1)
          · rw [if_pos (by rw [toList_eq_iff, L_ofL, hex]; exact hp), if_pos hp, fin_ok, et3]
          · rw [if_neg (by rw [toList_eq_iff, L_ofL, hex]; exact hp), if_neg hp, fin_four]
theorem ref_vget_f (s : ByteArray) (hs : s.size ≤ 9223372036854770000) (i : Nat) (hi : i ≤ s.size) (k : Nat) (hk : 22 ≤ k) : boomerangref1_Get.f k s (i : Int) = some (getS (L s) i) := by
  obtain ⟨k, rfl⟩ : ∃ m, k = m + 1 := ⟨k - 1, by omega⟩
  unfold boomerangref1_Get.f
  rw [if_neg (by omega), decide_eq_false (by omega)]
  simp only [boomerangref1_Get.j0]
  rw [if_neg (by decide)]
  exact ref_get_l0 s hs i hi 10 0 0 k (by omega) (by omega)

end Go.Proofs.Ythhigjfkekdmiaa.B
