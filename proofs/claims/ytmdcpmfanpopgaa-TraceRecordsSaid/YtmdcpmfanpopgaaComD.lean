/- Written by wip/tools/genvintt.py out of CrcB, VintB, RoundB: numbers in bytes: what the program's Put and Get compute. -/
import Derived.Test.YtmdcpmfanpopgaaM
import Derived.Laws.BitsLemmas
set_option linter.unusedSimpArgs false
set_option linter.unusedVariables false
namespace Go.Proofs.Ytmdcpmfanpopgaa.B
open Go.RowKit Go.Proofs.Ytmdcpmfanpopgaa Go.Proofs.Ytmdcpmfanpopgaa.M Go.Proofs.YtmdcpmfanpopgaaW.PrintWords Go.Proofs.YtmdcpmfanpopgaaW.PrintLast Go.Proofs.YtmdcpmfanpopgaaW.PrintMore

def L (s : ByteArray) : List UInt8 := s.data.toList
def ofL (l : List UInt8) : ByteArray := ⟨l.toArray⟩
theorem L_ofL (l : List UInt8) : L (ofL l) = l := rfl
theorem L_inj {a b : ByteArray} (h : L a = L b) : a = b := Go.WideShapes.bytes_inj h
theorem ofL_L (s : ByteArray) : ofL (L s) = s := L_inj rfl
theorem L_len (s : ByteArray) : (L s).length = s.size := data_length s
theorem ofL_size (l : List UInt8) : (ofL l).size = l.length := by simp [ofL, ByteArray.size]
theorem L_append (a b : ByteArray) : L (a ++ b) = L a ++ L b := by simp [L, ByteArray.data_append]
theorem L_extract (s : ByteArray) (i j : Nat) : L (s.extract i j) = ((L s).take j).drop i := by
  simp [L, List.extract, List.drop_take]
theorem L_toList (s : ByteArray) : s.toList = L s := Go.ByteArray.toList_eq s
theorem L_nums (xs : List Int) : L (strOfNums xs) = xs.map fun n => UInt8.ofNat n.toNat := strOfNums_data xs
theorem L_empty : L (⟨#[]⟩ : ByteArray) = [] := rfl
theorem eq_ofL {s : ByteArray} {l : List UInt8} (h : L s = l) : s = ofL l := by rw [← h, ofL_L]
theorem toList_eq_iff (a b : ByteArray) : a.toList = b.toList ↔ L a = L b := by rw [L_toList, L_toList]
theorem bt_L (s : ByteArray) (i : Nat) (h : i < s.size) : bt s (i : Int) = (((L s).getD i 0).toNat : Int) := by
  unfold bt
  have h' : i < s.data.toList.length := by rw [data_length]; exact h
  simp [L, List.getD_eq_getElem?_getD, List.getElem?_eq_getElem h', h]
  rfl
theorem wrap_id {x : Int} (h0 : -9223372036854775808 ≤ x) (h1 : x ≤ 9223372036854775807) : wrap64 x = x := by unfold wrap64; omega

def I64 (n : Int) : Prop := -9223372036854775808 ≤ n ∧ n < 9223372036854775808
def zz (n : Int) : Nat := if n < 0 then (-2 * n - 1).toNat else (2 * n).toNat
theorem zz_lt {n : Int} (h : I64 n) : zz n < 18446744073709551616 := by
  obtain ⟨h0, h1⟩ := h
  unfold zz
  split <;> omega
def leb (u : Nat) : List UInt8 := if h : u < 128 then [UInt8.ofNat u] else UInt8.ofNat (u % 128 + 128) :: leb (u / 128)
termination_by u
theorem leb_small {u : Nat} (h : u < 128) : leb u = [UInt8.ofNat u] := by rw [leb, dif_pos h]
theorem leb_big {u : Nat} (h : 128 ≤ u) : leb u = UInt8.ofNat (u % 128 + 128) :: leb (u / 128) := by rw [leb, dif_neg (by omega)]

theorem or128 : ∀ x : Fin 256, (x.val ||| 128) = x.val % 128 + 128 := by decide +kernel
theorem or_u8 (u : Nat) : Go.bits .or .u8 ((u : Int) % 256) 128 = ((u % 128 + 128 : Nat) : Int) := by
  have h := (bits_nat .u8 8 (by decide) (fun n h0 h1 => by rw [IntKind.wrap_u8]; have : (2 : Int) ^ 8 = 256 := by decide
                                                           omega) (u % 256) 128 (by have : (2 : Nat) ^ 8 = 256 := rfl
                                                                                    omega) (by decide)).2
  rw [show ((128 : Nat) : Int) = 128 from rfl] at h
  have e : (u : Int) % 256 = ((u % 256 : Nat) : Int) := by omega
  rw [e, h, or128 ⟨u % 256, Nat.mod_lt _ (by decide)⟩]
  show ((u % 256 % 128 + 128 : Nat) : Int) = _
  omega
theorem wrap_u64 (n : Int) : IntKind.u64.wrap n = n % 18446744073709551616 := by simp [IntKind.wrap, IntKind.bits, IntKind.signed]
theorem xor_u64 (a b : Nat) (ha : a < 18446744073709551616) (hb : b < 18446744073709551616) : Go.bits .xor .u64 (a : Int) (b : Int) = ((a ^^^ b : Nat) : Int) := by
  have e : IntKind.u64.bits = 64 := rfl
  have hp : (2 : Nat) ^ 64 = 18446744073709551616 := by decide
  have hx : a ^^^ b < 2 ^ 64 := Nat.xor_lt_two_pow (by omega) (by omega)
  unfold Go.bits
  simp only [BitVec.ofInt_natCast, BitVec.toNat_xor, BitVec.toNat_ofNat, e]
  rw [Nat.mod_eq_of_lt (by omega), Nat.mod_eq_of_lt (by omega), wrap_u64]
  omega
theorem xor_ones (a : Nat) (ha : a < 18446744073709551616) : a ^^^ 18446744073709551615 = 18446744073709551615 - a := by
  have h : (BitVec.ofNat 64 a ^^^ BitVec.allOnes 64).toNat = (~~~ BitVec.ofNat 64 a).toNat := by rw [BitVec.xor_allOnes]
  rw [BitVec.toNat_xor, BitVec.toNat_not, BitVec.toNat_ofNat, Nat.mod_eq_of_lt (by have : (2 : Nat) ^ 64 = 18446744073709551616 := by decide
                                                                                   omega)] at h
  have e : (BitVec.allOnes 64).toNat = 18446744073709551615 := by decide
  have hp : (2 : Nat) ^ 64 = 18446744073709551616 := by decide
  rw [e, hp] at h
  omega
theorem folded_f {n : Int} (h : I64 n) : vint_folded.f n = some (zz n : Int) := by
  obtain ⟨h0, h1⟩ := h
  unfold vint_folded.f
  refine congrArg some ?_
  rw [wrap_u64, wrap_u64, wrap_u64]
  by_cases hn : n < 0
  · have e1 : n / 9223372036854775808 % 18446744073709551616 = ((18446744073709551615 : Nat) : Int) := by omega
    have e2 : n % 18446744073709551616 * 2 % 18446744073709551616 = ((18446744073709551616 + 2 * n).toNat : Int) := by omega
    rw [e1, e2, xor_u64 _ _ (by omega) (by omega), xor_ones _ (by omega)]
    unfold zz
    rw [if_pos hn]
    omega
  · have e1 : n / 9223372036854775808 % 18446744073709551616 = ((0 : Nat) : Int) := by omega
    have e2 : n % 18446744073709551616 * 2 % 18446744073709551616 = ((2 * n).toNat : Int) := by omega
    rw [e1, e2, xor_u64 _ _ (by omega) (by omega), Nat.xor_zero]
    unfold zz
    rw [if_neg hn]
theorem putl0 : ∀ (d : Nat) (u : Nat) (x : List Int) (k : Nat), u < 128 ^ (d + 1) → d < k → x.length + d < 100 → vint_Put.l0 k x (u : Int) = some (ofL ((x.map fun n => UInt8.ofNat n.toNat) ++ leb u))
  | d, u, x, k, hu, hk, hx => by
    obtain ⟨k, rfl⟩ : ∃ m, k = m + 1 := ⟨k - 1, by omega⟩
    simp only [vint_Put.l0]
    by_cases h : u < 128
    · rw [if_neg (by omega), if_pos (by omega), leb_small h]
      refine congrArg some (eq_ofL ?_)
      rw [L_nums, List.map_append]
      have e : ((u : Int) % 256).toNat = u := by omega
      simp [e]
    · rw [if_pos (by omega), if_pos (by omega), leb_big (by omega), or_u8]
      match d, hu, hk, hx with
      | 0, hu, _, _ => exact absurd hu (by omega)
      | d + 1, hu, hk, hx =>
        have hd : u / 128 < 128 ^ (d + 1) := by
          rw [Nat.div_lt_iff_lt_mul (by decide)]
          rw [Nat.pow_succ] at hu
          exact hu
        have e : (u : Int) / 128 = ((u / 128 : Nat) : Int) := by omega
        rw [e, putl0 d (u / 128) _ k hd (by omega) (by simp; omega)]
        refine congrArg (fun l => some (ofL l)) ?_
        rw [List.map_append, List.append_assoc]
        rfl
theorem vput_f {n : Int} (h : I64 n) (k : Nat) (hk : 10 ≤ k) : vint_Put.f k n = some (ofL (leb (zz n))) := by
  unfold vint_Put.f
  rw [folded_f h, Option.bind_some]
  have hz := zz_lt h
  have h128 : (128 : Nat) ^ 10 = 1180591620717411303424 := by decide
  rw [putl0 9 (zz n) [] k (by omega) (by omega) (by decide)]
  rfl
theorem leb_len : ∀ (d u : Nat), u < 128 ^ (d + 1) → (leb u).length ≤ d + 1 ∧ 0 < (leb u).length
  | d, u, hu => by
    by_cases h : u < 128
    · rw [leb_small h]; simp
    · rw [leb_big (by omega)]
      match d, hu with
      | 0, hu => exact absurd hu (by omega)
      | d + 1, hu =>
        have hd : u / 128 < 128 ^ (d + 1) := by
          rw [Nat.div_lt_iff_lt_mul (by decide)]
          rw [Nat.pow_succ] at hu
          exact hu
        have := leb_len d (u / 128) hd
        simp only [List.length_cons]
        omega
theorem vput_len {n : Int} (h : I64 n) : (leb (zz n)).length ≤ 10 ∧ 0 < (leb (zz n)).length := by
  have hz := zz_lt h
  have h128 : (128 : Nat) ^ 10 = 1180591620717411303424 := by decide
  exact leb_len 9 _ (by omega)

def orOf (u : Int) (c : UInt8) (i : Nat) : Int := Go.bits .or .u64 u (shl .u64 (IntKind.u64.wrap (Go.bits .and .u8 (c.toNat : Int) 127)) ((7 * i : Nat) : Int))
def unz (u : Int) : Int := if u % 2 = 1 then -(u / 2) - 1 else u / 2
def scan (l : List UInt8) : Nat → Nat → Int → Int × Int × Int
  | 0, _, _ => (0, 0, 4)
  | d + 1, i, u => if l.length ≤ i then (0, 0, 3) else
      if 128 ≤ (l.getD i 0).toNat then scan l d (i + 1) (orOf u (l.getD i 0) i) else
        if leb (zz (unz (orOf u (l.getD i 0) i))) = l.take (i + 1) then (unz (orOf u (l.getD i 0) i), ((i + 1 : Nat) : Int), 0) else (0, 0, 4)
theorem or_range (a b : Int) : 0 ≤ Go.bits .or .u64 a b ∧ Go.bits .or .u64 a b < 18446744073709551616 := by
  unfold Go.bits
  rw [wrap_u64]
  omega
theorem and_one (u : Int) (h0 : 0 ≤ u) (h1 : u < 18446744073709551616) : Go.bits .and .u64 u 1 = u % 2 := by
  obtain ⟨v, rfl⟩ : ∃ v : Nat, u = (v : Int) := ⟨u.toNat, by omega⟩
  have hp : (2 : Nat) ^ 64 = 18446744073709551616 := by decide
  have h := (bits_nat .u64 64 (by decide) (fun n h0 h1 => by rw [wrap_u64]; have : (2 : Int) ^ 64 = 18446744073709551616 := by decide
                                                             omega) v 1 (by omega) (by decide)).1
  rw [show ((1 : Nat) : Int) = 1 from rfl] at h
  rw [h, Nat.and_one_is_mod]
  omega
theorem xor_i64_zero (x : Int) (h : I64 x) : Go.bits .xor .i64 x 0 = x := by
  obtain ⟨h0, h1⟩ := h
  unfold Go.bits
  have e : IntKind.i64.bits = 64 := rfl
  have hp : ((2 ^ 64 : Nat) : Int) = 18446744073709551616 := by decide
  rw [e, show BitVec.ofInt 64 0 = 0#64 from rfl]
  simp only [BitVec.xor_zero, BitVec.toNat_ofInt]
  rw [hp, IntKind.wrap_i64]
  omega
theorem xor_i64_ones (x : Int) (h : I64 x) : Go.bits .xor .i64 x (-1) = -x - 1 := by
  obtain ⟨h0, h1⟩ := h
  unfold Go.bits
  have e : IntKind.i64.bits = 64 := rfl
  have hp : ((2 ^ 64 : Nat) : Int) = 18446744073709551616 := by decide
  have hn : (2 : Nat) ^ 64 = 18446744073709551616 := by decide
  rw [e, show BitVec.ofInt 64 (-1) = BitVec.allOnes 64 by decide]
  simp only [BitVec.xor_allOnes, BitVec.toNat_not, BitVec.toNat_ofInt]
  rw [hp, hn, IntKind.wrap_i64]
  omega
theorem unz_prog (u : Int) (h0 : 0 ≤ u) (h1 : u < 18446744073709551616) : Go.bits .xor .i64 (wrap64 (u / 2)) (wrap64 (-(wrap64 (Go.bits .and .u64 u 1)))) = unz u := by
  rw [and_one u h0 h1, wrap_id (x := u / 2) (by omega) (by omega), wrap_id (x := u % 2) (by omega) (by omega), wrap_id (x := -(u % 2)) (by omega) (by omega)]
  unfold unz
  have hi : I64 (u / 2) := ⟨by omega, by omega⟩
  by_cases h : u % 2 = 1
  · rw [if_pos h, h, xor_i64_ones _ hi]
  · rw [if_neg h, show u % 2 = 0 by omega]
    exact xor_i64_zero _ hi
theorem unz_i64 (u : Int) (h0 : 0 ≤ u) (h1 : u < 18446744073709551616) : I64 (unz u) := by
  unfold unz I64
  split <;> omega
theorem orOf_range (u : Int) (c : UInt8) (i : Nat) : 0 ≤ orOf u c i ∧ orOf u c i < 18446744073709551616 := or_range _ _
theorem L_take_extract (s : ByteArray) (n : Nat) : L (s.extract 0 n) = (L s).take n := by rw [L_extract, List.drop_zero]
theorem bt_ge (s : ByteArray) (i : Nat) (h : i < s.size) : (bt s (i : Int) ≥ 128) ↔ 128 ≤ ((L s).getD i 0).toNat := by rw [bt_L s i h]; omega
theorem read_l0 (s : ByteArray) (hs : s.size ≤ 9223372036854770000) : ∀ (d i : Nat) (u : Int) (k : Nat), i + d = 10 → 11 + d ≤ k → i ≤ s.size →
    vint_read.l0 k s u (mn (s.size : Int) 10) (i : Int) = some (scan (L s) d i u)
  | d, i, u, k, hd, hk, hi => by
    obtain ⟨k, rfl⟩ : ∃ m, k = m + 1 := ⟨k - 1, by omega⟩
    have hm : mn (s.size : Int) 10 = if 10 < s.size then 10 else (s.size : Int) := by unfold mn; split <;> split <;> omega
    by_cases hlt : i < s.size ∧ i < 10
    · obtain ⟨d, rfl⟩ : ∃ m, d = m + 1 := ⟨d - 1, by omega⟩
      have hor := orOf_range u ((L s).getD i 0) i
      have ho : Go.bits .or .u64 u (shl .u64 (IntKind.u64.wrap (Go.bits .and .u8 (bt s (i : Int)) 127)) (wrap64 (7 * (i : Int)))) = orOf u ((L s).getD i 0) i := by
        unfold orOf
        rw [bt_L s i hlt.1, wrap_id (by omega) (by omega)]
        rfl
      have hw : wrap64 ((i : Int) + 1) = ((i + 1 : Nat) : Int) := by rw [wrap_id (by omega) (by omega)]; omega
      have hw7 : 0 ≤ wrap64 (7 * (i : Int)) := by rw [wrap_id (by omega) (by omega)]; omega
      have hnl : ¬ (L s).length ≤ i := by rw [L_len]; omega
      simp only [vint_read.l0, scan]
      rw [if_pos (by rw [hm]; split <;> omega), if_pos (by omega), if_pos (by omega), if_pos hw7, ho, hw, if_neg hnl]
      by_cases hc : 128 ≤ ((L s).getD i 0).toNat
      · rw [if_pos ((bt_ge s i hlt.1).2 hc), if_pos hc]
        exact read_l0 s hs d (i + 1) _ k (by omega) (by omega) (by omega)
      · rw [if_neg (fun h => hc ((bt_ge s i hlt.1).1 h)), if_neg hc, unz_prog _ hor.1 hor.2, vput_f (unz_i64 _ hor.1 hor.2) k (by omega), Option.bind_some, if_pos (by omega), if_pos (by omega)]
        have ec : ((i + 1 : Nat) : Int).toNat = i + 1 := by omega
        rw [ec]
        by_cases hp : leb (zz (unz (orOf u ((L s).getD i 0) i))) = (L s).take (i + 1)
        · rw [if_pos (by rw [toList_eq_iff, L_ofL, L_take_extract]; exact hp), if_pos hp]
        · rw [if_neg (by rw [toList_eq_iff, L_ofL, L_take_extract]; exact hp), if_neg hp]
    · have hge : ¬ ((i : Int) < mn (s.size : Int) 10) := by rw [hm]; split <;> omega
      simp only [vint_read.l0]
      rw [if_neg hge]
      by_cases h10 : i = 10
      · obtain rfl : d = 0 := by omega
        rw [if_neg (by omega)]
        rfl
      · obtain ⟨d, rfl⟩ : ∃ m, d = m + 1 := ⟨d - 1, by omega⟩
        rw [if_pos (by omega)]
        simp only [scan]
        rw [if_pos (by rw [L_len]; omega)]
def readS (l : List UInt8) : Int × Int × Int := scan l 10 0 0
theorem read_f (s : ByteArray) (hs : s.size ≤ 9223372036854770000) (k : Nat) (hk : 21 ≤ k) : vint_read.f k s = some (readS (L s)) := by
  unfold vint_read.f readS
  exact read_l0 s hs 10 0 0 k (by omega) hk (by omega)
/-- The number at a place, the place behind it, the error; the program's and the reference's. -/
def fin (a : Nat) (x : Int × Int × Int) : Int × Int × Int := if x.2.2 = 0 then (x.1, (a : Int) + x.2.1, 0) else (0, 0, x.2.2)
def getS (l : List UInt8) (at_ : Nat) : Int × Int × Int := fin at_ (readS (l.drop at_))
theorem fin_three (a : Nat) : fin a (0, 0, 3) = (0, 0, 3) := rfl
theorem fin_four (a : Nat) : fin a (0, 0, 4) = (0, 0, 4) := rfl
theorem fin_ok (a : Nat) (n m : Int) : fin a (n, m, 0) = (n, (a : Int) + m, 0) := rfl
theorem scan_facts (l : List UInt8) : ∀ (d i : Nat) (u : Int), i + d = 10 → i ≤ l.length → ((scan l d i u).2.2 ≠ 0 → (scan l d i u).1 = 0 ∧ (scan l d i u).2.1 = 0) ∧ ((scan l d i u).2.2 = 0 → 1 ≤ (scan l d i u).2.1 ∧ (scan l d i u).2.1 ≤ l.length ∧ I64 (scan l d i u).1) ∧ 0 ≤ (scan l d i u).2.2 ∧ (scan l d i u).2.2 ≤ 4
  | 0, i, u, _, _ => by simp [scan]
  | d + 1, i, u, hd, hi => by
    simp only [scan]
    by_cases h1 : l.length ≤ i
    · rw [if_pos h1]; simp
    · rw [if_neg h1]
      by_cases h2 : 128 ≤ (l.getD i 0).toNat
      · rw [if_pos h2]; exact scan_facts l d (i + 1) _ (by omega) (by omega)
      · rw [if_neg h2]
        have hor := orOf_range u (l.getD i 0) i
        split
        · refine ⟨fun h => absurd rfl h, fun _ => ⟨?_, ?_, unz_i64 _ hor.1 hor.2⟩, ?_, ?_⟩ <;> dsimp only <;> omega
        · simp
theorem readS_facts (l : List UInt8) : ((readS l).2.2 ≠ 0 → (readS l).1 = 0 ∧ (readS l).2.1 = 0) ∧ ((readS l).2.2 = 0 → 1 ≤ (readS l).2.1 ∧ (readS l).2.1 ≤ l.length ∧ I64 (readS l).1) ∧ 0 ≤ (readS l).2.2 ∧ (readS l).2.2 ≤ 4 :=
  scan_facts l 10 0 0 (by omega) (Nat.zero_le _)
theorem vget_f (s : ByteArray) (hs : s.size ≤ 9223372036854770000) (i : Nat) (hi : i ≤ s.size) (k : Nat) (hk : 22 ≤ k) : vint_Get.f k s (i : Int) = some (getS (L s) i) := by
  obtain ⟨k, rfl⟩ : ∃ m, k = m + 1 := ⟨k - 1, by omega⟩
  have hsub : L (s.extract i s.size) = (L s).drop i := by rw [L_extract, List.take_of_length_le (by rw [L_len]; omega)]
  have hf := readS_facts ((L s).drop i)
  unfold vint_Get.f vint_placed_int.f
  rw [if_neg (by omega), decide_eq_false (by omega)]
  simp only [vint_placed_int.j0]
  rw [if_neg (by decide), if_pos (by omega), if_pos (by omega)]
  have ec : ((i : Nat) : Int).toNat = i := by omega
  rw [ec, read_f _ (by rw [← L_len, hsub, List.length_drop, L_len]; omega) k (by omega), hsub, Option.bind_some]
  unfold getS fin
  have hl : ((L s).drop i).length = s.size - i := by rw [List.length_drop, L_len]
  rw [hl] at hf
  by_cases h0 : (readS ((L s).drop i)).2.2 = 0
  · have h2 := hf.2.1 h0
    have h2a : 1 ≤ (readS ((L s).drop i)).2.1 := h2.1
    have h2b : (readS ((L s).drop i)).2.1 ≤ ((s.size - i : Nat) : Int) := h2.2.1
    rw [if_pos h0, if_pos h0, Option.bind_some, wrap_id (by omega) (by omega)]
  · have h2 := (hf.1 h0).1
    have h2a : (readS ((L s).drop i)).1 = 0 := h2
    rw [if_neg h0, if_neg h0, Option.bind_some, h2a]
theorem and127 : ∀ x : Fin 256, (x.val &&& 127) = x.val % 128 := by decide +kernel
theorem and_u8 (c : Nat) (h : c < 256) : Go.bits .and .u8 (c : Int) 127 = ((c % 128 : Nat) : Int) := by
  have h1 := (bits_nat .u8 8 (by decide) (fun n h0 h1 => by rw [IntKind.wrap_u8]; have : (2 : Int) ^ 8 = 256 := by decide
                                                            omega) c 127 (by have : (2 : Nat) ^ 8 = 256 := rfl
                                                                             omega) (by decide)).1
  rw [show ((127 : Nat) : Int) = 127 from rfl] at h1
  rw [h1, and127 ⟨c, h⟩]
theorem or_u64 (a b : Nat) (ha : a < 4294967296) (hb : b < 4294967296) : Go.bits .or .u64 (a : Int) (b : Int) = ((a ||| b : Nat) : Int) := by
  have hp : (2 : Nat) ^ 32 = 4294967296 := by decide
  exact (bits_nat .u64 32 (by decide) (fun n h0 h1 => by rw [wrap_u64]; have : (2 : Int) ^ 32 = 4294967296 := by decide
                                                         omega) a b (by omega) (by omega)).2
theorem orOf_zero (c : UInt8) : orOf 0 c 0 = ((c.toNat % 128 : Nat) : Int) := by
  have hc := c.toNat_lt
  unfold orOf
  rw [and_u8 _ hc, wrap_u64]
  have e1 : ((c.toNat % 128 : Nat) : Int) % 18446744073709551616 = ((c.toNat % 128 : Nat) : Int) := by omega
  have e2 : shl .u64 ((c.toNat % 128 : Nat) : Int) ((7 * 0 : Nat) : Int) = ((c.toNat % 128 : Nat) : Int) := by
    unfold shl
    rw [wrap_u64]
    have e3 : min ((7 * 0 : Nat) : Int).toNat IntKind.u64.bits = 0 := by simp
    rw [e3, Int.pow_zero, Int.mul_one]
    exact e1
  rw [e1, e2]
  have h := or_u64 0 (c.toNat % 128) (by omega) (by omega)
  rw [Nat.zero_or] at h
  exact h
theorem orOf_one (x : Nat) (c : UInt8) (hx : x < 128) (hc : c.toNat < 128) : orOf (x : Int) c 1 = ((c.toNat * 128 + x : Nat) : Int) := by
  unfold orOf
  rw [and_u8 _ (by omega), wrap_u64]
  have e0 : c.toNat % 128 = c.toNat := by omega
  rw [e0]
  have e1 : ((c.toNat : Nat) : Int) % 18446744073709551616 = ((c.toNat : Nat) : Int) := by omega
  have e2 : shl .u64 ((c.toNat : Nat) : Int) ((7 * 1 : Nat) : Int) = ((c.toNat * 128 : Nat) : Int) := by
    unfold shl
    rw [wrap_u64]
    have e3 : min ((7 * 1 : Nat) : Int).toNat IntKind.u64.bits = 7 := by decide
    have e4 : (2 : Int) ^ 7 = 128 := by decide
    rw [e3, e4]
    omega
  rw [e1, e2, or_u64 _ _ (by omega) (by omega)]
  have h := Nat.two_pow_add_eq_or_of_lt (i := 7) (b := x) (by have : (2 : Nat) ^ 7 = 128 := rfl
                                                              omega) c.toNat
  have e5 : (2 : Nat) ^ 7 = 128 := rfl
  rw [e5] at h
  rw [Nat.or_comm, show c.toNat * 128 = 128 * c.toNat by omega, h]
theorem zz_nat (n : Nat) : zz (n : Int) = 2 * n := by unfold zz; rw [if_neg (by omega)]; omega
theorem unz_even (n : Nat) : unz ((2 * n : Nat) : Int) = (n : Int) := by unfold unz; rw [if_neg (by omega)]; omega

/-- One byte. -/
theorem leb_one {n : Nat} (h : n < 64) : leb (zz (n : Int)) = [UInt8.ofNat (2 * n)] := by rw [zz_nat, leb_small (by omega)]
/-- Two bytes. -/
theorem leb_two {n : Nat} (h : 64 ≤ n) (h2 : n < 8192) : leb (zz (n : Int)) = [UInt8.ofNat (2 * n % 128 + 128), UInt8.ofNat (2 * n / 128)] := by
  rw [zz_nat, leb_big (by omega), leb_small (by omega)]
theorem read_put {n : Nat} (h : n < 8192) (rest : List UInt8) : readS (leb (zz (n : Int)) ++ rest) = ((n : Int), ((leb (zz (n : Int))).length : Int), 0) := by
  unfold readS
  by_cases h1 : n < 64
  · rw [leb_one h1]
    have hc : (UInt8.ofNat (2 * n)).toNat = 2 * n := by rw [UInt8.toNat_ofNat']; omega
    simp only [scan]
    have hg : ([UInt8.ofNat (2 * n)] ++ rest).getD 0 0 = UInt8.ofNat (2 * n) := rfl
    rw [if_neg (by simp), hg, if_neg (by rw [hc]; omega), orOf_zero, hc]
    have e : 2 * n % 128 = 2 * n := by omega
    rw [e, unz_even, leb_one h1, if_pos (by simp)]
    rfl
  · rw [leb_two (by omega) h]
    have hc : (UInt8.ofNat (2 * n % 128 + 128)).toNat = 2 * n % 128 + 128 := by rw [UInt8.toNat_ofNat']; omega
    have hd : (UInt8.ofNat (2 * n / 128)).toNat = 2 * n / 128 := by rw [UInt8.toNat_ofNat']; omega
    have hg : ([UInt8.ofNat (2 * n % 128 + 128), UInt8.ofNat (2 * n / 128)] ++ rest).getD 0 0 = UInt8.ofNat (2 * n % 128 + 128) := rfl
    have hg1 : ([UInt8.ofNat (2 * n % 128 + 128), UInt8.ofNat (2 * n / 128)] ++ rest).getD (0 + 1) 0 = UInt8.ofNat (2 * n / 128) := rfl
    simp only [scan]
    rw [if_neg (by simp), hg, if_pos (by rw [hc]; omega), if_neg (by simp), hg1, if_neg (by rw [hd]; omega), orOf_zero, hc]
    have e : (2 * n % 128 + 128) % 128 = 2 * n % 128 := by omega
    rw [e, orOf_one _ _ (by omega) (by rw [hd]; omega), hd]
    have e2 : 2 * n / 128 * 128 + 2 * n % 128 = 2 * n := by omega
    rw [e2, unz_even, leb_two (by omega) h, if_pos (by simp)]
    rfl
/-- A beginning of a small number's bytes: more are needed. -/
theorem read_cut {n : Nat} (h : n < 8192) (j : Nat) (hj : j < (leb (zz (n : Int))).length) : readS ((leb (zz (n : Int))).take j) = (0, 0, 3) := by
  unfold readS
  by_cases h1 : n < 64
  · rw [leb_one h1] at hj ⊢
    obtain rfl : j = 0 := by simpa using hj
    rfl
  · rw [leb_two (by omega) h] at hj ⊢
    have hj2 : j < 2 := hj
    rcases Nat.eq_zero_or_pos j with rfl | hp
    · rfl
    · obtain rfl : j = 1 := by omega
      have hc : (UInt8.ofNat (2 * n % 128 + 128)).toNat = 2 * n % 128 + 128 := by rw [UInt8.toNat_ofNat']; omega
      have ht : [UInt8.ofNat (2 * n % 128 + 128), UInt8.ofNat (2 * n / 128)].take 1 = [UInt8.ofNat (2 * n % 128 + 128)] := rfl
      have hg : [UInt8.ofNat (2 * n % 128 + 128)].getD 0 0 = UInt8.ofNat (2 * n % 128 + 128) := rfl
      rw [ht]
      simp only [scan]
      rw [if_neg (by simp), hg, if_pos (by rw [hc]; omega), if_pos (by simp)]
end Go.Proofs.Ytmdcpmfanpopgaa.B
/- Any number of at most four bytes is told again wherever it stands. -/
set_option linter.unusedSimpArgs false
set_option linter.unusedVariables false
namespace Go.Proofs.Ytmdcpmfanpopgaa.B
open Go.RowKit Go.Proofs.Ytmdcpmfanpopgaa Go.Proofs.Ytmdcpmfanpopgaa.M Go.Proofs.YtmdcpmfanpopgaaW.PrintWords Go.Proofs.YtmdcpmfanpopgaaW.PrintLast Go.Proofs.YtmdcpmfanpopgaaW.PrintMore

theorem orOf_at (i j p : Nat) (hj : min ((7 * i : Nat) : Int).toNat IntKind.u64.bits = j) (hp : 2 ^ j = p) (hpi : (2 : Int) ^ j = (p : Int)) (hp2 : p ≤ 2097152) (u : Nat) (hu : u < p) (c : UInt8) : orOf (u : Int) c i = ((p * (c.toNat % 128) + u : Nat) : Int) := by
  have hc := c.toNat_lt
  generalize hx : c.toNat % 128 = x
  have hx1 : x < 128 := by omega
  unfold orOf
  rw [and_u8 _ hc, wrap_u64, hx]
  have e1 : ((x : Nat) : Int) % 18446744073709551616 = (x : Int) := by omega
  have hm : p * x ≤ 2097152 * 127 := Nat.mul_le_mul hp2 (by omega)
  have e2 : shl .u64 (x : Int) ((7 * i : Nat) : Int) = ((p * x : Nat) : Int) := by
    unfold shl
    rw [wrap_u64, hj, hpi, Int.mul_comm, ← Int.natCast_mul]
    omega
  rw [e1, e2, or_u64 _ _ (by omega) (by omega), Nat.or_comm]
  have h := Nat.two_pow_add_eq_or_of_lt (i := j) (b := u) (by rw [hp]; exact hu) x
  rw [hp] at h
  rw [h]
theorem orOf_gen : ∀ (i : Nat), i < 4 → ∀ (u : Nat), u < 128 ^ i → ∀ c : UInt8, orOf (u : Int) c i = ((128 ^ i * (c.toNat % 128) + u : Nat) : Int)
  | 0, _, u, hu, c => orOf_at 0 0 _ (by decide) (by decide) (by decide) (by decide) u hu c
  | 1, _, u, hu, c => orOf_at 1 7 _ (by decide) (by decide) (by decide) (by decide) u hu c
  | 2, _, u, hu, c => orOf_at 2 14 _ (by decide) (by decide) (by decide) (by decide) u hu c
  | 3, _, u, hu, c => orOf_at 3 21 _ (by decide) (by decide) (by decide) (by decide) u hu c
  | i + 4, h, _, _, _ => absurd h (by omega)
theorem unz_zz (n : Int) : unz (zz n : Int) = n := by
  unfold unz zz
  split <;> split <;> omega
theorem leb_pos (v : Nat) : 0 < (leb v).length := by
  by_cases h : v < 128
  · rw [leb_small h]; simp
  · rw [leb_big (by omega)]; simp

theorem scan_put (n : Int) (rest : List UInt8) : ∀ (m v u i d : Nat) (pre : List UInt8), pre.length = i → pre ++ leb v = leb (zz n) → u + 128 ^ i * v = zz n → u < 128 ^ i → i + m = 3 → v < 128 ^ (m + 1) → m < d →
    scan (leb (zz n) ++ rest) d i (u : Int) = (n, ((leb (zz n)).length : Int), 0) := by
  intro m
  induction m with
  | zero =>
    intro v u i d pre hi hp hu hu2 him hv hd
    obtain ⟨d, rfl⟩ : ∃ e, d = e + 1 := ⟨d - 1, by omega⟩
    have hv' : v < 128 := by simpa using hv
    have hc : (UInt8.ofNat v).toNat = v := by rw [UInt8.toNat_ofNat']; omega
    rw [← hp, leb_small hv']
    have hg : (pre ++ [UInt8.ofNat v] ++ rest).getD i 0 = UInt8.ofNat v := by
      rw [List.getD_eq_getElem?_getD, List.append_assoc, List.getElem?_append_right (by omega), hi, Nat.sub_self]; rfl
    have hcm : (UInt8.ofNat v).toNat % 128 = v := by omega
    simp only [scan]
    rw [if_neg (by simp; omega), hg, if_neg (by rw [hc]; omega), orOf_gen i (by omega) u hu2, hcm, show 128 ^ i * v + u = zz n by omega, unz_zz]
    rw [if_pos (by rw [← hp, leb_small hv', List.take_append_of_le_length (by simp; omega), List.take_of_length_le (by simp; omega)])]
    simp [hi]
  | succ m ih =>
    intro v u i d pre hi hp hu hu2 him hv hd
    by_cases hv' : v < 128
    · obtain ⟨d, rfl⟩ : ∃ e, d = e + 1 := ⟨d - 1, by omega⟩
      have hc : (UInt8.ofNat v).toNat = v := by rw [UInt8.toNat_ofNat']; omega
      rw [← hp, leb_small hv']
      have hg : (pre ++ [UInt8.ofNat v] ++ rest).getD i 0 = UInt8.ofNat v := by
        rw [List.getD_eq_getElem?_getD, List.append_assoc, List.getElem?_append_right (by omega), hi, Nat.sub_self]; rfl
      have hcm : (UInt8.ofNat v).toNat % 128 = v := by omega
      simp only [scan]
      rw [if_neg (by simp; omega), hg, if_neg (by rw [hc]; omega), orOf_gen i (by omega) u hu2, hcm, show 128 ^ i * v + u = zz n by omega, unz_zz]
      rw [if_pos (by rw [← hp, leb_small hv', List.take_append_of_le_length (by simp; omega), List.take_of_length_le (by simp; omega)])]
      simp [hi]
    · obtain ⟨d, rfl⟩ : ∃ e, d = e + 1 := ⟨d - 1, by omega⟩
      have hc : (UInt8.ofNat (v % 128 + 128)).toNat = v % 128 + 128 := by rw [UInt8.toNat_ofNat']; omega
      have hp' : (pre ++ [UInt8.ofNat (v % 128 + 128)]) ++ leb (v / 128) = leb (zz n) := by
        rw [← hp, leb_big (u := v) (by omega), List.append_assoc]; rfl
      have hg : (leb (zz n) ++ rest).getD i 0 = UInt8.ofNat (v % 128 + 128) := by
        rw [← hp', List.getD_eq_getElem?_getD, List.append_assoc, List.append_assoc, List.getElem?_append_right (by omega), hi, Nat.sub_self]; rfl
      have hlen : i < (leb (zz n) ++ rest).length := by rw [← hp']; simp; omega
      have hcm : (UInt8.ofNat (v % 128 + 128)).toNat % 128 = v % 128 := by omega
      simp only [scan]
      rw [if_neg (by omega), hg, if_pos (by rw [hc]; omega), orOf_gen i (by omega) u hu2, hcm]
      have hpow : 128 ^ (i + 1) = 128 ^ i * 128 := by rw [Nat.pow_succ]
      have hdm : v = 128 * (v / 128) + v % 128 := by omega
      refine ih (v / 128) (128 ^ i * (v % 128) + u) (i + 1) d _ (by simp [hi]) hp' ?_ ?_ (by omega) ?_ (by omega)
      · rw [hpow, ← hu]
        have : 128 ^ i * v = 128 ^ i * (128 * (v / 128) + v % 128) := by rw [← hdm]
        rw [this, Nat.mul_add, Nat.mul_assoc]; omega
      · rw [hpow]
        have : 128 ^ i * (v % 128) ≤ 128 ^ i * 127 := Nat.mul_le_mul (Nat.le_refl _) (by omega)
        omega
      · rw [Nat.div_lt_iff_lt_mul (by decide), ← Nat.pow_succ]; exact hv
theorem read_all {n : Int} (h : zz n < 268435456) (rest : List UInt8) : readS (leb (zz n) ++ rest) = (n, ((leb (zz n)).length : Int), 0) := by
  have := scan_put n rest 3 (zz n) 0 0 10 [] rfl rfl (by simp) (by simp) rfl (by simpa using h) (by omega)
  exact this
end Go.Proofs.Ytmdcpmfanpopgaa.B
/- Plain laws of a record's bytes: Put's bytes are told again, with a byte behind, and not with a byte less. -/
set_option linter.unusedSimpArgs false
set_option linter.unusedVariables false
namespace Go.Proofs.Ytmdcpmfanpopgaa.B
open Go.RowKit Go.Proofs.Ytmdcpmfanpopgaa Go.Proofs.Ytmdcpmfanpopgaa.M Go.Proofs.YtmdcpmfanpopgaaW.PrintWords Go.Proofs.YtmdcpmfanpopgaaW.PrintLast Go.Proofs.YtmdcpmfanpopgaaW.PrintMore

/-- A number of at most four bytes. -/
def Sm (n : Int) : Prop := -134217728 ≤ n ∧ n < 134217728
theorem Sm.i64 {n : Int} (h : Sm n) : I64 n := ⟨by have := h.1; omega, by have := h.2; omega⟩
theorem Sm.zz {n : Int} (h : Sm n) : zz n < 268435456 := by
  obtain ⟨h0, h1⟩ := h
  unfold B.zz
  split <;> omega
theorem Sm.len {n : Int} (h : Sm n) : (leb (B.zz n)).length ≤ 10 := (vput_len h.i64).1

theorem get_at {s : ByteArray} {A rest : List UInt8} {n : Int} (hn : Sm n) (hs : L s = A ++ (leb (zz n) ++ rest)) (hsz : s.size ≤ 9223372036854770000) : vint_Get.f 100 s (A.length : Int) = some (n, ((A ++ leb (zz n)).length : Int), 0) := by
  have hl : A.length ≤ s.size := by rw [← L_len, hs]; simp
  rw [vget_f s hsz A.length hl 100 (by omega)]
  unfold getS
  rw [hs, List.drop_left, read_all hn.zz, fin_ok]
  simp

theorem text_at {s : ByteArray} {A t rest : List UInt8} (ht : t.length ≤ 4096) (hs : L s = A ++ (leb (zz (t.length : Int)) ++ (t ++ rest))) (hsz : s.size ≤ 9223372036854770000) :
    ∃ a, vint_GetText.f 100 s (A.length : Int) = some (ofL t, a, 0) := by
  have hl : A.length ≤ s.size := by rw [← L_len, hs]; simp
  have hsn : Sm (t.length : Int) := ⟨by omega, by omega⟩
  have hsub : L (s.extract A.length s.size) = leb (zz (t.length : Int)) ++ (t ++ rest) := by
    rw [L_extract, List.take_of_length_le (by rw [L_len]; omega), hs, List.drop_left]
  generalize hq : leb (zz (t.length : Int)) = q at hsub hs
  have hqs : q.length ≤ 10 := by rw [← hq]; exact hsn.len
  have hsz2 : (s.extract A.length s.size).size = q.length + (t.length + rest.length) := by rw [← L_len, hsub]; simp
  have hsz3 : s.size = A.length + (q.length + (t.length + rest.length)) := by rw [← L_len, hs]; simp
  unfold vint_GetText.f vint_placed_string.f
  rw [if_neg (by omega), decide_eq_false (by omega)]
  simp only [vint_placed_string.j0]
  rw [if_neg (by decide), if_pos (by omega), if_pos (by omega)]
  have ec : ((A.length : Nat) : Int).toNat = A.length := by omega
  rw [ec]
  have htx : vint_text.f 99 (s.extract A.length s.size) = some (ofL t, ((q.length + t.length : Nat) : Int), 0) := by
    unfold vint_text.f
    rw [read_f _ (by rw [hsz2]; omega) 99 (by omega), hsub, ← hq, read_all hsn.zz, hq, Option.bind_some, if_pos rfl, if_neg (by simp only; omega), decide_eq_false (by simp only; omega)]
    simp only [vint_text.j0]
    have w1 : wrap64 (((s.extract A.length s.size).size : Int) - (q.length : Int)) = ((t.length + rest.length : Nat) : Int) := by rw [wrap_id (by omega) (by omega)]; omega
    have w2 : wrap64 ((q.length : Int) + (t.length : Int)) = ((q.length + t.length : Nat) : Int) := by rw [wrap_id (by omega) (by omega)]; omega
    rw [if_neg (by decide), w1, if_neg (by omega), if_pos (by omega), w2, if_pos (by omega), if_pos (by omega)]
    have e1 : ((q.length : Nat) : Int).toNat = q.length := by omega
    have e2 : ((q.length + t.length : Nat) : Int).toNat = q.length + t.length := by omega
    rw [e1, e2]
    refine congrArg (fun x => some (x, _, _)) (eq_ofL ?_)
    rw [L_extract, hsub, ← List.append_assoc, List.take_append_of_le_length (by simp), List.take_of_length_le (by simp), List.drop_left]
  rw [htx, Option.bind_some]
  exact ⟨_, rfl⟩

theorem text_cut {s : ByteArray} {A t : List UInt8} (ht : t.length ≤ 4096) (j : Nat) (hj : j < (leb (zz (t.length : Int)) ++ t).length) (hs : L s = A ++ (leb (zz (t.length : Int)) ++ t).take j) (hsz : s.size ≤ 9223372036854770000) :
    ∃ t' a, vint_GetText.f 100 s (A.length : Int) = some (t', a, 3) := by
  have hl : A.length ≤ s.size := by rw [← L_len, hs]; simp
  have hsn : Sm (t.length : Int) := ⟨by omega, by omega⟩
  have hsub : L (s.extract A.length s.size) = (leb (zz (t.length : Int)) ++ t).take j := by
    rw [L_extract, List.take_of_length_le (by rw [L_len]; omega), hs, List.drop_left]
  have hqs : (leb (zz (t.length : Int))).length ≤ 10 := hsn.len
  have hsz2 : (s.extract A.length s.size).size = j := by rw [← L_len, hsub, List.length_take]; omega
  have hsz3 : s.size = A.length + j := by rw [← L_len, hs, List.length_append, List.length_take]; omega
  have hjl : j ≤ 5000 := by simp at hj; omega
  unfold vint_GetText.f vint_placed_string.f
  rw [if_neg (by omega), decide_eq_false (by omega)]
  simp only [vint_placed_string.j0]
  rw [if_neg (by decide), if_pos (by omega), if_pos (by omega)]
  have ec : ((A.length : Nat) : Int).toNat = A.length := by omega
  rw [ec]
  have htx : vint_text.f 99 (s.extract A.length s.size) = some (⟨#[]⟩, 0, 3) := by
    unfold vint_text.f
    rw [read_f _ (by rw [hsz2]; omega) 99 (by omega), hsub]
    by_cases hc : j < (leb (zz (t.length : Int))).length
    · rw [List.take_append_of_le_length (by omega), read_cut (by omega) j hc, Option.bind_some, if_neg (by decide)]
    · have hrd : readS ((leb (zz (t.length : Int)) ++ t).take j) = ((t.length : Int), ((leb (zz (t.length : Int))).length : Int), 0) := by
        rw [List.take_append, List.take_of_length_le (by omega)]
        exact read_all hsn.zz _
      generalize (leb (zz (t.length : Int))) = q at hrd hqs hc hj hsub hs
      simp only [List.length_append] at hj
      rw [hrd, Option.bind_some, if_pos rfl, if_neg (by simp only; omega), decide_eq_false (by simp only; omega)]
      simp only [vint_text.j0]
      have w1 : wrap64 (((s.extract A.length s.size).size : Int) - (q.length : Int)) = ((j : Int) - (q.length : Int)) := by rw [hsz2, wrap_id (by omega) (by omega)]
      rw [if_neg (by decide), w1, if_pos (by omega)]
  rw [htx, Option.bind_some]
  exact ⟨_, _, rfl⟩
end Go.Proofs.Ytmdcpmfanpopgaa.B
/- A record's bytes: the facts that the law's walk wants. -/
set_option linter.unusedSimpArgs false
set_option linter.unusedVariables false
namespace Go.Proofs.Ytmdcpmfanpopgaa.B
open Go.RowKit Go.Proofs.Ytmdcpmfanpopgaa Go.Proofs.Ytmdcpmfanpopgaa.M Go.Proofs.YtmdcpmfanpopgaaW.PrintWords Go.Proofs.YtmdcpmfanpopgaaW.PrintLast Go.Proofs.YtmdcpmfanpopgaaW.PrintMore

def pb (n1 n2 n3 : Int) (t : List UInt8) : List UInt8 := leb (zz n1) ++ (leb (zz n2) ++ (leb (zz n3) ++ (leb (zz (t.length : Int)) ++ t)))
theorem pb_len {n1 n2 n3 : Int} {t : List UInt8} (s1 : Sm n1) (s2 : Sm n2) (s3 : Sm n3) (ht : t.length ≤ 4096) : 1 ≤ (pb n1 n2 n3 t).length ∧ (pb n1 n2 n3 t).length ≤ 5000 := by
  have h1 := vput_len s1.i64
  have h2 := vput_len s2.i64
  have h3 := vput_len s3.i64
  have h4 := vput_len (n := (t.length : Int)) ⟨by omega, by omega⟩
  unfold pb
  simp only [List.length_append]
  omega
theorem put_rec {n1 n2 n3 : Int} {t : ByteArray} (h0 : 0 ≤ n1) (s1 : Sm n1) (s2 : Sm n2) (s3 : Sm n3) (ht : t.size ≤ 4096) (hmay : trace_May.f 100 n2 n3 t = some true) : trace_Put.f 100 n1 n2 n3 t = some (ofL (pb n1 n2 n3 (L t)), 0) := by
  have h1 := vput_len s1.i64
  have h2 := vput_len s2.i64
  have h3 := vput_len s3.i64
  have hst : I64 (t.size : Int) := ⟨by omega, by omega⟩
  have h4 := vput_len hst
  unfold trace_Put.f
  rw [if_neg (by omega), hmay, Option.bind_some]
  simp only [trace_Put.j0]
  rw [if_neg (by decide), vput_f s1.i64 99 (by omega), Option.bind_some, vput_f s2.i64 99 (by omega), Option.bind_some, if_pos (by rw [ofL_size, ofL_size]; omega), vput_f s3.i64 99 (by omega), Option.bind_some,
    if_pos (by rw [ByteArray.size_append, ofL_size, ofL_size, ofL_size]; omega)]
  unfold vint_Text.f
  rw [vput_f hst 99 (by omega), Option.bind_some, if_pos (by rw [ofL_size]; omega), Option.bind_some, if_pos (by rw [ByteArray.size_append, ByteArray.size_append, ByteArray.size_append, ofL_size, ofL_size, ofL_size, ofL_size]; omega)]
  refine congrArg (fun x => some (x, 0)) (eq_ofL ?_)
  simp only [L_append, L_ofL, pb, L_len, List.append_assoc]

theorem gets {s : ByteArray} {n1 n2 n3 : Int} {rest : List UInt8} (s1 : Sm n1) (s2 : Sm n2) (s3 : Sm n3) (hs : L s = leb (zz n1) ++ (leb (zz n2) ++ (leb (zz n3) ++ rest))) (hsz : s.size ≤ 9223372036854770000) :
    ∃ a1 a2, vint_Get.f 100 s 0 = some (n1, a1, 0) ∧ vint_Get.f 100 s a1 = some (n2, a2, 0) ∧ vint_Get.f 100 s a2 = some (n3, ((leb (zz n1) ++ leb (zz n2) ++ leb (zz n3)).length : Int), 0) := by
  have g1 := get_at (A := []) s1 (by rw [hs]; rfl) hsz
  have g2 := get_at (A := leb (zz n1)) s2 hs hsz
  have g3 := get_at (A := leb (zz n1) ++ leb (zz n2)) (rest := rest) s3 (by rw [hs, List.append_assoc]) hsz
  exact ⟨_, _, g1, g2, g3⟩

/-- What the law's walk wants of a record: its bytes p. -/
structure RecF (n1 n2 n3 : Int) (t p : ByteArray) : Prop where
  put : trace_Put.f 100 n1 n2 n3 t = some (p, 0)
  size : 1 ≤ p.size ∧ p.size ≤ 5000
  ok : ∃ a1 a2 a3 a4, vint_Get.f 100 p 0 = some (n1, a1, 0) ∧ vint_Get.f 100 p a1 = some (n2, a2, 0) ∧ vint_Get.f 100 p a2 = some (n3, a3, 0) ∧ vint_GetText.f 100 p a3 = some (t, a4, 0)
  more : ∃ a1 a2 a3 a4, vint_Get.f 100 (p ++ ⟨#[0]⟩) 0 = some (n1, a1, 0) ∧ vint_Get.f 100 (p ++ ⟨#[0]⟩) a1 = some (n2, a2, 0) ∧ vint_Get.f 100 (p ++ ⟨#[0]⟩) a2 = some (n3, a3, 0) ∧ vint_GetText.f 100 (p ++ ⟨#[0]⟩) a3 = some (t, a4, 0)
  cut : ∃ a1 a2 a3 t' a4, vint_Get.f 100 (p.extract 0 (p.size - 1)) 0 = some (n1, a1, 0) ∧ vint_Get.f 100 (p.extract 0 (p.size - 1)) a1 = some (n2, a2, 0) ∧ vint_Get.f 100 (p.extract 0 (p.size - 1)) a2 = some (n3, a3, 0) ∧ vint_GetText.f 100 (p.extract 0 (p.size - 1)) a3 = some (t', a4, 3)

theorem recF {n1 n2 n3 : Int} {t : ByteArray} (h0 : 0 ≤ n1) (s1 : Sm n1) (s2 : Sm n2) (s3 : Sm n3) (ht : t.size ≤ 4096) (hmay : trace_May.f 100 n2 n3 t = some true) : RecF n1 n2 n3 t (ofL (pb n1 n2 n3 (L t))) := by
  have htl : (L t).length ≤ 4096 := by rw [L_len]; exact ht
  have hsz := pb_len (t := L t) s1 s2 s3 htl
  have hassoc : ∀ rest : List UInt8, leb (zz n1) ++ (leb (zz n2) ++ (leb (zz n3) ++ rest)) = (leb (zz n1) ++ leb (zz n2) ++ leb (zz n3)) ++ rest := fun rest => by simp only [List.append_assoc]
  refine ⟨put_rec h0 s1 s2 s3 ht hmay, by rw [ofL_size]; exact hsz, ?_, ?_, ?_⟩
  · have hsz' : (ofL (pb n1 n2 n3 (L t))).size ≤ 9223372036854770000 := by rw [ofL_size]; omega
    obtain ⟨a1, a2, g1, g2, g3⟩ := gets (s := ofL (pb n1 n2 n3 (L t))) s1 s2 s3 rfl hsz'
    obtain ⟨a4, g4⟩ := text_at (s := ofL (pb n1 n2 n3 (L t))) (A := leb (zz n1) ++ leb (zz n2) ++ leb (zz n3)) (t := L t) (rest := []) htl (by rw [L_ofL, List.append_nil]; exact hassoc _) hsz'
    rw [ofL_L] at g4
    exact ⟨a1, a2, _, a4, g1, g2, g3, g4⟩
  · have hL : L (ofL (pb n1 n2 n3 (L t)) ++ ⟨#[0]⟩) = leb (zz n1) ++ (leb (zz n2) ++ (leb (zz n3) ++ (leb (zz ((L t).length : Int)) ++ (L t ++ [0])))) := by
      rw [L_append, L_ofL]
      show pb n1 n2 n3 (L t) ++ [0] = _
      simp only [pb, List.append_assoc]
    have hsz' : (ofL (pb n1 n2 n3 (L t)) ++ ⟨#[0]⟩ : ByteArray).size ≤ 9223372036854770000 := by rw [ByteArray.size_append, ofL_size]; show _ + 1 ≤ _; omega
    obtain ⟨a1, a2, g1, g2, g3⟩ := gets s1 s2 s3 hL hsz'
    obtain ⟨a4, g4⟩ := text_at (A := leb (zz n1) ++ leb (zz n2) ++ leb (zz n3)) (t := L t) (rest := [0]) htl (by rw [hL]; exact hassoc _) hsz'
    rw [ofL_L] at g4
    exact ⟨a1, a2, _, a4, g1, g2, g3, g4⟩
  · generalize hB : leb (zz ((L t).length : Int)) ++ L t = Bt
    have hBl : 1 ≤ Bt.length := by rw [← hB, List.length_append]; have := leb_pos (zz ((L t).length : Int)); omega
    have hpb : pb n1 n2 n3 (L t) = (leb (zz n1) ++ leb (zz n2) ++ leb (zz n3)) ++ Bt := by unfold pb; rw [hB, hassoc]
    have hL : L ((ofL (pb n1 n2 n3 (L t))).extract 0 ((ofL (pb n1 n2 n3 (L t))).size - 1)) = (leb (zz n1) ++ leb (zz n2) ++ leb (zz n3)) ++ Bt.take (Bt.length - 1) := by
      rw [L_extract, L_ofL, List.drop_zero, ofL_size, hpb, List.take_append, List.take_of_length_le (by simp only [List.length_append]; omega)]
      congr 2
      simp only [List.length_append]; omega
    have hsz' : ((ofL (pb n1 n2 n3 (L t))).extract 0 ((ofL (pb n1 n2 n3 (L t))).size - 1)).size ≤ 9223372036854770000 := by rw [← L_len, hL, List.length_append, List.length_take]; rw [hpb, List.length_append] at hsz; omega
    obtain ⟨a1, a2, g1, g2, g3⟩ := gets (rest := Bt.take (Bt.length - 1)) s1 s2 s3 (by rw [hL, hassoc]) hsz'
    obtain ⟨t', a4, g4⟩ := text_cut (A := leb (zz n1) ++ leb (zz n2) ++ leb (zz n3)) (t := L t) htl (Bt.length - 1) (by rw [hB]; omega) (by rw [hL, hB]) hsz'
    exact ⟨a1, a2, _, t', a4, g1, g2, g3, g4⟩
theorem RecF.inj {n1 n2 n3 m1 m2 m3 : Int} {t u p : ByteArray} (h : RecF n1 n2 n3 t p) (h' : RecF m1 m2 m3 u p) : n1 = m1 ∧ n2 = m2 ∧ n3 = m3 ∧ t = u := by
  obtain ⟨a1, a2, a3, a4, g1, g2, g3, g4⟩ := h.ok
  obtain ⟨b1, b2, b3, b4, k1, k2, k3, k4⟩ := h'.ok
  rw [g1] at k1
  simp only [Option.some.injEq, Prod.mk.injEq] at k1
  obtain ⟨rfl, rfl, _⟩ := k1
  rw [g2] at k2
  simp only [Option.some.injEq, Prod.mk.injEq] at k2
  obtain ⟨rfl, rfl, _⟩ := k2
  rw [g3] at k3
  simp only [Option.some.injEq, Prod.mk.injEq] at k3
  obtain ⟨rfl, rfl, _⟩ := k3
  rw [g4] at k4
  simp only [Option.some.injEq, Prod.mk.injEq] at k4
  exact ⟨rfl, rfl, rfl, k4.1⟩
end Go.Proofs.Ytmdcpmfanpopgaa.B
/- The law's generator: its inputs are well. -/
set_option linter.unusedSimpArgs false
set_option linter.unusedVariables false
namespace Go.Proofs.Ytmdcpmfanpopgaa.B
open Go.RowKit Go.Proofs.Ytmdcpmfanpopgaa Go.Proofs.Ytmdcpmfanpopgaa.M Go.Proofs.YtmdcpmfanpopgaaW.PrintWords Go.Proofs.YtmdcpmfanpopgaaW.PrintLast Go.Proofs.YtmdcpmfanpopgaaW.PrintMore

structure InOk (x : S25) : Prop where
  k0 : 1 ≤ x.f0
  k1 : x.f0 ≤ 5
  n0 : -100 ≤ x.f1
  n1 : x.f1 ≤ 255
  size : x.f2.size ≤ 5
  kind : ((x.f0 = 3 ∨ x.f0 = 4) ∧ x.f1 = 0) ∨ (x.f0 ≠ 3 ∧ x.f0 ≠ 4 ∧ (x.f0 = 5 → 0 ≤ x.f1) ∧ x.f2 = ⟨#[]⟩)
theorem InOk.may {x : S25} (h : InOk x) : trace_May.f 100 x.f0 x.f1 x.f2 = some true := by
  have h0 := h.k0
  have h1 := h.k1
  have h2 := h.n0
  have h3 := h.n1
  have h4 := h.size
  unfold trace_May.f
  rw [if_neg (by omega), if_neg (by omega), if_neg (by omega), if_neg (by omega), decide_eq_false (by omega)]
  simp only [trace_May.j0]
  rw [if_neg (by decide)]
  unfold trace_said.f
  rcases h.kind with ⟨h5 | h5, h6⟩ | ⟨h5, h6, h7, h8⟩
  · rw [if_pos h5, Option.bind_some, if_pos rfl, h6]; rfl
  · rw [if_neg (by omega), Option.bind_some, if_pos (by rw [h5]; rfl), h6]; rfl
  · rw [if_neg h5, Option.bind_some, if_neg (by simpa using h6)]
    by_cases h9 : x.f0 = 5
    · rw [if_pos h9, if_neg (by have := h7 h9; omega), h8, L_toList, L_empty]; rfl
    · rw [if_neg h9, h8, L_toList, L_empty]; rfl

theorem host_j2 (k : Nat) (l : List Int) (xs : List S25) (i b kind : Int) (hb : 0 ≤ b ∧ b < 256) (h1 : 1 ≤ kind) (h5 : kind ≤ 5) (hx : xs.length < 100) :
    ∃ y, InOk y ∧ boomeranglaw4_Host.j2 (k + 2) l xs i b kind b ⟨#[]⟩ = boomeranglaw4_Host.l0 k l (xs ++ [y]) (wrap64 (i + 2)) := by
  obtain ⟨b0, b1⟩ := hb
  simp only [boomeranglaw4_Host.j2]
  by_cases h34 : kind = 3 ∨ kind = 4
  · have ej : (if kind = 3 then boomeranglaw4_Host.j3 (k + 1) l xs i b true kind b ⟨#[]⟩ else boomeranglaw4_Host.j3 (k + 1) l xs i b (kind == 4) kind b ⟨#[]⟩) = boomeranglaw4_Host.j3 (k + 1) l xs i b true kind b ⟨#[]⟩ := by
      rcases h34 with h | h
      · rw [if_pos h]
      · rw [if_neg (by omega), show (kind == 4) = true by rw [h]; rfl]
    rw [ej]
    simp only [boomeranglaw4_Host.j3]
    have ht0 : 0 ≤ Int.tmod b 5 := by rw [Int.tmod_eq_emod_of_nonneg b0]; omega
    have ht1 : Int.tmod b 5 < 5 := by rw [Int.tmod_eq_emod_of_nonneg b0]; omega
    rw [if_pos trivial, Option.bind_some, if_pos ht0, if_pos (by exact ht1), if_neg (by omega), if_pos (by omega)]
    refine ⟨_, ⟨h1, h5, by simp only; omega, by simp only; omega, ?_, .inl ⟨h34, rfl⟩⟩, rfl⟩
    generalize hj : Int.tmod b 5 = j at ht0 ht1
    have hj5 : j = 0 ∨ j = 1 ∨ j = 2 ∨ j = 3 ∨ j = 4 := by omega
    rcases hj5 with rfl | rfl | rfl | rfl | rfl <;> (dsimp only; decide)
  · have h3 : kind ≠ 3 := fun e => h34 (.inl e)
    have h4 : kind ≠ 4 := fun e => h34 (.inr e)
    rw [if_neg h3, show (kind == 4) = false by simpa using h4]
    simp only [boomeranglaw4_Host.j3]
    rw [if_neg (by decide)]
    by_cases h2 : kind = 2
    · rw [if_pos h2, if_pos (by omega)]
      have hw : wrap64 (b - 100) = b - 100 := wrap_id (by omega) (by omega)
      exact ⟨_, ⟨h1, h5, by simp only; omega, by simp only; omega, (by show (0 : Nat) ≤ 5; decide), .inr ⟨h3, h4, fun e => by simp only at e; omega, rfl⟩⟩, rfl⟩
    · rw [if_neg h2, if_pos (by omega)]
      exact ⟨_, ⟨h1, h5, by simp only; omega, by simp only; omega, (by show (0 : Nat) ≤ 5; decide), .inr ⟨h3, h4, fun _ => b0, rfl⟩⟩, rfl⟩

theorem rd_byte {l : List Int} (hb : ∀ b ∈ l, 0 ≤ b ∧ b < 256) (i : Nat) (h : i < l.length) : 0 ≤ rd l (i : Int) ∧ rd l (i : Int) < 256 := by
  unfold rd
  have e : ((i : Nat) : Int).toNat = i := by omega
  rw [e, List.getD_eq_getElem?_getD, List.getElem?_eq_getElem h]
  exact hb _ (List.getElem_mem h)

theorem host_l0 (l : List Int) (hb : ∀ b ∈ l, 0 ≤ b ∧ b < 256) : ∀ (d k : Nat) (xs : List S25), xs.length + d = 20 → 4 * d + 4 ≤ k → (∀ x ∈ xs, InOk x) →
    ∃ ys, boomeranglaw4_Host.l0 k l xs ((2 * xs.length : Nat) : Int) = some ys ∧ ∀ y ∈ ys, InOk y := by
  intro d
  induction d with
  | zero =>
    intro k xs hx hk hok
    obtain ⟨k, rfl⟩ : ∃ m, k = m + 2 := ⟨k - 2, by omega⟩
    refine ⟨xs, ?_, hok⟩
    simp only [boomeranglaw4_Host.l0, boomeranglaw4_Host.j1]
    rw [decide_eq_false (by omega)]
    simp
  | succ d ih =>
    intro k xs hx hk hok
    obtain ⟨k, rfl⟩ : ∃ m, k = m + 4 := ⟨k - 4, by omega⟩
    have w1 : wrap64 (((2 * xs.length : Nat) : Int) + 1) = ((2 * xs.length + 1 : Nat) : Int) := by rw [wrap_id (by omega) (by omega)]; omega
    have w2 : wrap64 (((2 * xs.length : Nat) : Int) + 2) = ((2 * (xs.length + 1) : Nat) : Int) := by rw [wrap_id (by omega) (by omega)]; omega
    simp only [boomeranglaw4_Host.l0, boomeranglaw4_Host.j1]
    rw [w1]
    by_cases h : ((2 * xs.length + 1 : Nat) : Int) < (l.length : Int)
    · have hb0 := rd_byte hb (2 * xs.length) (by omega)
      have hb1 := rd_byte hb (2 * xs.length + 1) (by omega)
      rw [if_pos h, decide_eq_true (by omega), if_pos rfl, if_pos (by omega), if_pos h, if_pos (by omega), if_pos (by omega)]
      have wb1 : wrap64 (rd l ((2 * xs.length + 1 : Nat) : Int)) = rd l ((2 * xs.length + 1 : Nat) : Int) := wrap_id (by omega) (by omega)
      have wb0 : wrap64 (rd l ((2 * xs.length : Nat) : Int)) = rd l ((2 * xs.length : Nat) : Int) := wrap_id (by omega) (by omega)
      rw [wb1, wb0]
      generalize rd l ((2 * xs.length + 1 : Nat) : Int) = b1 at hb1
      generalize rd l ((2 * xs.length : Nat) : Int) = b0 at hb0
      have go : ∀ kind : Int, 1 ≤ kind → kind ≤ 5 → ∃ ys, boomeranglaw4_Host.j2 (k + 2) l xs ((2 * xs.length : Nat) : Int) b1 kind b1 ⟨#[]⟩ = some ys ∧ ∀ y ∈ ys, InOk y := by
        intro kind h1 h5
        obtain ⟨y, hy, e⟩ := host_j2 k l xs ((2 * xs.length : Nat) : Int) b1 kind hb1 h1 h5 (by omega)
        rw [e, w2]
        have hlen : (xs ++ [y]).length = xs.length + 1 := by simp
        have := ih k (xs ++ [y]) (by rw [hlen]; omega) (by omega) (fun x hx => by
          rcases List.mem_append.1 hx with h | h
          · exact hok x h
          · rw [List.mem_singleton.1 h]; exact hy)
        rw [hlen] at this
        exact this
      split
      · exact go 5 (by omega) (by omega)
      · have e5 : wrap64 (1 + Int.tmod b0 5) = 1 + b0 % 5 := by rw [Int.tmod_eq_emod_of_nonneg hb0.1, wrap_id (by omega) (by omega)]
        rw [e5]
        exact go _ (by omega) (by omega)
    · rw [if_neg h, if_neg (by decide)]
      exact ⟨xs, rfl, hok⟩
theorem host_ok (l : List Int) (hb : ∀ b ∈ l, 0 ≤ b ∧ b < 256) : ∃ ys, boomeranglaw4_Host.f 100 l = some ys ∧ ∀ y ∈ ys, InOk y :=
  host_l0 l hb 20 100 [] rfl (by omega) (by simp)
end Go.Proofs.Ytmdcpmfanpopgaa.B
