/- A small number, a record, are told again wherever they stand; what is cut off is said to be so. -/
import Derived.Test.YthhigjfkekdmiaaFrameB
set_option linter.unusedSimpArgs false
set_option linter.unusedVariables false
namespace Go.Proofs.Ythhigjfkekdmiaa.B
open Go.RowKit Go.Proofs.Ythhigjfkekdmiaa Go.Proofs.Ythhigjfkekdmiaa.M Go.Proofs.YthhigjfkekdmiaaW.PrintWords Go.Proofs.YthhigjfkekdmiaaW.PrintLast Go.Proofs.YthhigjfkekdmiaaW.PrintMore

theorem and127 : ∀ x : Fin 256, (x.val &&& 127) = x.val % 128 := by decide +kernel
theorem and_u8 (c : Nat) (h : c < 256) : Go.bits .and .u8 (c : Int) 127 = ((c % 128 : Nat) : Int) := by
  have h1 := (bits_nat .u8 8 (by decide) (fun n h0 h1 => by rw [IntKind.wrap_u8]; have : (2 : Int) ^ 8 = 256 := by decide
                                                            omega) c 127 (by have : (2 : Nat) ^ 8 = 256 := rfl
                                                                             omega) (by decide)).1
  rw [show ((127 : Nat) : Int) = 127 from rfl] at h1
  rw [h1, and127 ⟨c, h⟩]
theorem or_u64 (a b : Nat) (ha : a < 4294967296) (hb : b < 4294967296) : Go.bits .or .u64 (a : Int) (b : Int) = ((a ||| b : Nat) : Int) := by
  have hp : (2 : Nat) ^ 32 = 4294967296 := by decide
  exact (bits_nat .u64 32 (by decide) (fun n h0 h1 => by rw [wrap_u64]; have : (2 : Int) ^ 32 = 4294967296 := by decide
                                                         omega) a b (by omega) (by omega)).2
theorem orOf_zero (c : UInt8) : orOf 0 c 0 = ((c.toNat % 128 : Nat) : Int) := by
  have hc := c.toNat_lt
  unfold orOf
  rw [and_u8 _ hc, wrap_u64]
  have e1 : ((c.toNat % 128 : Nat) : Int) % 18446744073709551616 = ((c.toNat % 128 : Nat) : Int) := by omega
  have e2 : shl .u64 ((c.toNat % 128 : Nat) : Int) ((7 * 0 : Nat) : Int) = ((c.toNat % 128 : Nat) : Int) := by
    unfold shl
    rw [wrap_u64]
    have e3 : min ((7 * 0 : Nat) : Int).toNat IntKind.u64.bits = 0 := by simp
    rw [e3, Int.pow_zero, Int.mul_one]
    exact e1
  rw [e1, e2]
  have h := or_u64 0 (c.toNat % 128) (by omega) (by omega)
  rw [Nat.zero_or] at h
  exact h
theorem orOf_one (x : Nat) (c : UInt8) (hx : x < 128) (hc : c.toNat < 128) : orOf (x : Int) c 1 = ((c.toNat * 128 + x : Nat) : Int) := by
  unfold orOf
  rw [and_u8 _ (by omega), wrap_u64]
  have e0 : c.toNat % 128 = c.toNat := by omega
  rw [e0]
  have e1 : ((c.toNat : Nat) : Int) % 18446744073709551616 = ((c.toNat : Nat) : Int) := by omega
  have e2 : shl .u64 ((c.toNat : Nat) : Int) ((7 * 1 : Nat) : Int) = ((c.toNat * 128 : Nat) : Int) := by
    unfold shl
    rw [wrap_u64]
    have e3 : min ((7 * 1 : Nat) : Int).toNat IntKind.u64.bits = 7 := by decide
    have e4 : (2 : Int) ^ 7 = 128 := by decide
    rw [e3, e4]
    omega
  rw [e1, e2, or_u64 _ _ (by omega) (by omega)]
  have h := Nat.two_pow_add_eq_or_of_lt (i := 7) (b := x) (by have : (2 : Nat) ^ 7 = 128 := rfl
                                                              omega) c.toNat
  have e5 : (2 : Nat) ^ 7 = 128 := rfl
  rw [e5] at h
  rw [Nat.or_comm, show c.toNat * 128 = 128 * c.toNat by omega, h]
theorem zz_nat (n : Nat) : zz (n : Int) = 2 * n := by unfold zz; rw [if_neg (by omega)]; omega
theorem unz_even (n : Nat) : unz ((2 * n : Nat) : Int) = (n : Int) := by unfold unz; rw [if_neg (by omega)]; omega

/-- One byte. -/
theorem leb_one {n : Nat} (h : n < 64) : leb (zz (n : Int)) = [UInt8.ofNat (2 * n)] := by rw [zz_nat, leb_small (by omega)]
/-- Two bytes. -/
theorem leb_two {n : Nat} (h : 64 ≤ n) (h2 : n < 8192) : leb (zz (n : Int)) = [UInt8.ofNat (2 * n % 128 + 128), UInt8.ofNat (2 * n / 128)] := by
  rw [zz_nat, leb_big (by omega), leb_small (by omega)]
theorem read_put {n : Nat} (h : n < 8192) (rest : List UInt8) : readS (leb (zz (n : Int)) ++ rest) = ((n : Int), ((leb (zz (n : Int))).length : Int), 0) := by
  unfold readS
  by_cases h1 : n < 64
  · rw [leb_one h1]
    have hc : (UInt8.ofNat (2 * n)).toNat = 2 * n := by rw [UInt8.toNat_ofNat']; omega
    simp only [scan]
    have hg : ([UInt8.ofNat (2 * n)] ++ rest).getD 0 0 = UInt8.ofNat (2 * n) := rfl
    rw [if_neg (by simp), hg, if_neg (by rw [hc]; omega), orOf_zero, hc]
    have e : 2 * n % 128 = 2 * n := by omega
    rw [e, unz_even, leb_one h1, if_pos (by simp)]
    rfl
  · rw [leb_two (by omega) h]
    have hc : (UInt8.ofNat (2 * n % 128 + 128)).toNat = 2 * n % 128 + 128 := by rw [UInt8.toNat_ofNat']; omega
    have hd : (UInt8.ofNat (2 * n / 128)).toNat = 2 * n / 128 := by rw [UInt8.toNat_ofNat']; omega
    have hg : ([UInt8.ofNat (2 * n % 128 + 128), UInt8.ofNat (2 * n / 128)] ++ rest).getD 0 0 = UInt8.ofNat (2 * n % 128 + 128) := rfl
    have hg1 : ([UInt8.ofNat (2 * n % 128 + 128), UInt8.ofNat (2 * n / 128)] ++ rest).getD (0 + 1) 0 = UInt8.ofNat (2 * n / 128) := rfl
    simp only [scan]
    rw [if_neg (by simp), hg, if_pos (by rw [hc]; omega), if_neg (by simp), hg1, if_neg (by rw [hd]; omega), orOf_zero, hc]
    have e : (2 * n % 128 + 128) % 128 = 2 * n % 128 := by omega
    rw [e, orOf_one _ _ (by omega) (by rw [hd]; omega), hd]
    have e2 : 2 * n / 128 * 128 + 2 * n % 128 = 2 * n := by omega
    rw [e2, unz_even, leb_two (by omega) h, if_pos (by simp)]
    rfl
/-- A beginning of a small number's bytes: more are needed. -/
theorem read_cut {n : Nat} (h : n < 8192) (j : Nat) (hj : j < (leb (zz (n : Int))).length) : readS ((leb (zz (n : Int))).take j) = (0, 0, 3) := by
  unfold readS
  by_cases h1 : n < 64
  · rw [leb_one h1] at hj ⊢
    obtain rfl : j = 0 := by simpa using hj
    rfl
  · rw [leb_two (by omega) h] at hj ⊢
    have hj2 : j < 2 := hj
    rcases Nat.eq_zero_or_pos j with rfl | hp
    · rfl
    · obtain rfl : j = 1 := by omega
      have hc : (UInt8.ofNat (2 * n % 128 + 128)).toNat = 2 * n % 128 + 128 := by rw [UInt8.toNat_ofNat']; omega
      have ht : [UInt8.ofNat (2 * n % 128 + 128), UInt8.ofNat (2 * n / 128)].take 1 = [UInt8.ofNat (2 * n % 128 + 128)] := rfl
      have hg : [UInt8.ofNat (2 * n % 128 + 128)].getD 0 0 = UInt8.ofNat (2 * n % 128 + 128) := rfl
      rw [ht]
      simp only [scan]
      rw [if_neg (by simp), hg, if_pos (by rw [hc]; omega), if_pos (by simp)]
theorem GetS_put (l : List UInt8) : GetS (Crc.put l) = (l, 0) := by
  unfold GetS
  have ht : (Crc.put l).take l.length = l := by rw [Crc.put, List.take_append_of_le_length (by omega), List.take_of_length_le (by omega)]
  rw [cput_len, if_neg (by omega), show l.length + 4 - 4 = l.length by omega, ht, if_pos rfl]
theorem frm_length (x : List UInt8) : (frm x).length = (leb (zz (x.length : Int))).length + x.length + 4 := by unfold frm; rw [List.length_append, cput_len]; omega
/-- A record is told again, whatever stands ahead of it and behind. -/
theorem next_put (pre x rest : List UInt8) (hx : x.length ≤ 4096) : nextS (pre ++ (frm x ++ rest)) pre.length = (x, 0, ((pre.length + (frm x).length : Nat) : Int)) := by
  have hd : (pre ++ (frm x ++ rest)).drop pre.length = leb (zz (x.length : Int)) ++ (Crc.put x ++ rest) := by
    rw [List.drop_left]; unfold frm; rw [List.append_assoc]
  have hg : getS (pre ++ (frm x ++ rest)) pre.length = ((x.length : Int), ((pre.length + (leb (zz (x.length : Int))).length : Nat) : Int), 0) := by
    unfold getS
    rw [hd, read_put (by omega), fin_ok]
    exact congrArg (fun z => ((x.length : Int), z, (0 : Int))) (by omega)
  have hfl := frm_length x
  unfold nextS
  rw [hg, if_pos rfl]
  unfold afterS
  dsimp only
  have hlen : (pre ++ (frm x ++ rest)).length = pre.length + (frm x).length + rest.length := by rw [List.length_append, List.length_append]; omega
  rw [if_neg (by omega), if_neg (by rw [hlen]; omega)]
  generalize hn : (leb (zz (x.length : Int))).length = n at *
  have e1 : ((((pre.length + n : Nat) : Int) + (x.length : Int) + 4)).toNat = pre.length + (frm x).length := by omega
  have e2 : (((pre.length + n : Nat) : Int)).toNat = pre.length + n := by omega
  have e3 : ((pre ++ (frm x ++ rest)).take (pre.length + (frm x).length)).drop (pre.length + n) = Crc.put x := by
    rw [List.take_length_add_append, List.take_left, List.drop_length_add_append]
    unfold frm
    rw [← hn, List.drop_left]
  rw [e1, e2, e3, GetS_put, if_pos rfl]
  exact congrArg (fun z => (x, (0 : Int), z)) (by omega)
/-- A record that is cut short: more is needed. -/
theorem next_cut (pre x : List UInt8) (hx : x.length ≤ 4096) (j : Nat) (hj : j < (frm x).length) : nextS (pre ++ (frm x).take j) pre.length = ([], 3, 0) := by
  have hfl := frm_length x
  have hlen : (pre ++ (frm x).take j).length = pre.length + j := by rw [List.length_append, List.length_take]; omega
  have hd : (pre ++ (frm x).take j).drop pre.length = (frm x).take j := List.drop_left
  by_cases hs : j < (leb (zz (x.length : Int))).length
  · have hg : getS (pre ++ (frm x).take j) pre.length = (0, 0, 3) := by
      unfold getS
      have ht : (frm x).take j = (leb (zz (x.length : Int))).take j := by unfold frm; rw [List.take_append_of_le_length (by omega)]
      rw [hd, ht, read_cut (by omega) j hs, fin_three]
    unfold nextS
    rw [hg, if_neg (by decide)]
  · have hg : getS (pre ++ (frm x).take j) pre.length = ((x.length : Int), ((pre.length + (leb (zz (x.length : Int))).length : Nat) : Int), 0) := by
      unfold getS
      have ht : (frm x).take j = leb (zz (x.length : Int)) ++ (Crc.put x).take (j - (leb (zz (x.length : Int))).length) := by
        unfold frm
        rw [List.take_append]
        rw [List.take_of_length_le (by omega)]
      rw [hd, ht, read_put (by omega), fin_ok]
      exact congrArg (fun z => ((x.length : Int), z, (0 : Int))) (by omega)
    unfold nextS
    rw [hg, if_pos rfl]
    unfold afterS
    dsimp only
    rw [if_neg (by omega), if_pos (by rw [hlen]; omega)]
/-- Records side by side are told again. -/
def frms (xs : List (List UInt8)) : List UInt8 := (xs.map frm).flatten
theorem frms_cons (x : List UInt8) (xs : List (List UInt8)) : frms (x :: xs) = frm x ++ frms xs := by simp [frms]
theorem frms_append (xs ys : List (List UInt8)) : frms (xs ++ ys) = frms xs ++ frms ys := by simp [frms]
theorem frms_nil : frms [] = [] := rfl
theorem all_put : ∀ (xs : List (List UInt8)) (pre rest : List UInt8) (d : Nat), (∀ x ∈ xs, x.length ≤ 4096) → (pre ++ (frms xs ++ rest)).length < pre.length + d →
    ∃ r : Rec, ∃ d', (pre ++ (frms xs ++ rest)).length < pre.length + (frms xs).length + d' ∧ allS (pre ++ (frms xs ++ rest)) d' (pre.length + (frms xs).length) = r ∧ (allS (pre ++ (frms xs ++ rest)) d pre.length).l = xs ++ r.l ∧ (allS (pre ++ (frms xs ++ rest)) d pre.length).used = r.used ∧ (allS (pre ++ (frms xs ++ rest)) d pre.length).e = r.e
  | [], pre, rest, d, _, hd => by
    refine ⟨_, d, ?_, rfl, ?_, ?_, ?_⟩ <;> simp [frms] at hd ⊢
    exact hd
  | x :: xs, pre, rest, d, hx, hd => by
    have hxl := hx x (by simp)
    have hfl := frm_length x
    have e0 : pre ++ (frms (x :: xs) ++ rest) = pre ++ (frm x ++ (frms xs ++ rest)) := by rw [frms_cons, List.append_assoc]
    have e1 : pre ++ (frm x ++ (frms xs ++ rest)) = (pre ++ frm x) ++ (frms xs ++ rest) := by rw [List.append_assoc]
    have el : (pre ++ (frm x ++ (frms xs ++ rest))).length = pre.length + (frm x).length + (frms xs ++ rest).length := by rw [List.length_append, List.length_append]; omega
    rw [e0] at hd ⊢
    rw [el] at hd
    obtain ⟨d, rfl⟩ : ∃ m, d = m + 1 := ⟨d - 1, by omega⟩
    have hn := next_put pre x (frms xs ++ rest) hxl
    have hL : (pre ++ frm x).length = pre.length + (frm x).length := List.length_append
    obtain ⟨r, d', h1, h2, h3, h4, h5⟩ := all_put xs (pre ++ frm x) rest d (fun y hy => hx y (by simp [hy])) (by rw [← e1, el, hL]; omega)
    rw [← e1, hL] at h1 h2 h3 h4 h5
    have hfx : pre.length + (frms (x :: xs)).length = pre.length + (frm x).length + (frms xs).length := by rw [frms_cons, List.length_append]; omega
    refine ⟨r, d', by rw [hfx]; exact h1, by rw [hfx]; exact h2, ?_, ?_, ?_⟩
    all_goals
      simp only [allS]
      rw [if_neg (by rw [el]; omega), hn, if_pos rfl, Int.toNat_natCast]
    · dsimp only; rw [h3]; rfl
    · dsimp only; exact h4
    · dsimp only; exact h5
/-- All of them, and nothing behind. -/
theorem all_frms (xs : List (List UInt8)) (hx : ∀ x ∈ xs, x.length ≤ 4096) (d : Nat) (hd : (frms xs).length < d) : (allS (frms xs) d 0).l = xs ∧ (allS (frms xs) d 0).used = ((frms xs).length : Int) ∧ (allS (frms xs) d 0).e = 0 := by
  obtain ⟨r, d', h1, h2, h3, h4, h5⟩ := all_put xs [] [] d hx (by simpa using hd)
  simp only [List.nil_append, List.append_nil, List.length_nil, Nat.zero_add] at h1 h2 h3 h4 h5
  obtain ⟨d', rfl⟩ : ∃ m, d' = m + 1 := ⟨d' - 1, by omega⟩
  simp only [allS] at h2
  rw [if_pos (Nat.le_refl _)] at h2
  subst h2
  exact ⟨by rw [h3]; simp, h4, h5⟩

end Go.Proofs.Ythhigjfkekdmiaa.B
