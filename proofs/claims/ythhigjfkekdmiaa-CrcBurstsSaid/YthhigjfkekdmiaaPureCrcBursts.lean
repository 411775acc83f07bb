/- For every text, place and 32 bits: bytes are told again; with up to 32 bits side by side turned they are not. Condition: the text takes at most 140737488351232 bytes. -/
import Derived.Test.YthhigjfkekdmiaaFlip
import Derived.Test.YthhigjfkekdmiaaM9
set_option linter.unusedSimpArgs false
set_option linter.unusedVariables false
namespace Go.Proofs.Ythhigjfkekdmiaa.Pure
open Go.RowKit Go.Proofs.Ythhigjfkekdmiaa Go.Proofs.Ythhigjfkekdmiaa.M Go.Proofs.YthhigjfkekdmiaaW.PrintWords Go.Proofs.YthhigjfkekdmiaaW.PrintLast Go.Proofs.YthhigjfkekdmiaaW.PrintMore Go.Proofs.Ythhigjfkekdmiaa.B

theorem bursts_get (s : ByteArray) (hs : s.size ≤ 300) (k m : Nat) (hm : m < 4294967296) (hk : k + 32 ≤ 8 * (s.size + 4)) (x : List Int) (h : Flipped (Crc.put (L s)) k 32 m x) :
    crc_Get.f (strOfNums x) = some (if m = 0 then (s, 0) else (ofL [], 5)) := by
  have hl : (Crc.put (L s)).length = s.size + 4 := by rw [Crc.put, List.length_append, L_len, Crc.le4_length]
  have hq := flipped_len h
  rw [get_f _ (by rw [← L_len, hq, hl]; omega)]
  unfold GetS
  rw [hq, hl, if_neg (by omega)]
  have e4 : s.size + 4 - 4 = s.size := by omega
  rw [e4]
  by_cases h0 : m = 0
  · subst h0
    rw [flipped_none h, if_pos rfl]
    have ht : (Crc.put (L s)).take s.size = L s := by rw [Crc.put, List.take_append_of_le_length (by rw [L_len]; omega), List.take_of_length_le (by rw [L_len]; omega)]
    rw [ht, if_pos rfl, ofL_L]
  · rw [if_neg h0, if_neg]
    intro hp
    apply h0
    refine flipped_reg h (by rw [hl]; exact hk) hm Crc.full ?_
    rw [Crc.reg_put, ← hp, Crc.reg_put]
theorem bursts_end (s : ByteArray) (hs : s.size ≤ 300) (k m : Nat) (hm : m < 4294967296) (hk : k + 32 ≤ 8 * (s.size + 4)) (x : List Int) (h : Flipped (Crc.put (L s)) k 32 m x) (f : Nat) :
    boomeranglaw2_CrcBursts.l0 (f + 1) (m : Int) (ofL (Crc.put (L s))) x (k : Int) 32 = some true := by
  have hl : (Crc.put (L s)).length = s.size + 4 := by rw [Crc.put, List.length_append, L_len, Crc.le4_length]
  have h3 : crc_Get.f ((ofL (Crc.put (L s))).extract 0 3) = some (ofL [], 3) := by
    have e : L ((ofL (Crc.put (L s))).extract 0 3) = (Crc.put (L s)).take 3 := by rw [L_extract, List.drop_zero, L_ofL]
    have el : ((Crc.put (L s)).take 3).length = 3 := by rw [List.length_take, hl]; omega
    rw [get_f _ (by rw [← L_len, e, el]; omega), e]
    unfold GetS
    rw [el, if_pos (by omega)]
  simp only [boomeranglaw2_CrcBursts.l0]
  rw [if_neg (by omega), bursts_get s hs k m hm hk x h]
  simp only [Option.bind_some]
  rw [if_pos (by rw [ofL_size, hl]; omega), h3]
  simp only [Option.bind_some, boomeranglaw1_Err.f]
  by_cases h0 : m = 0
  · subst h0
    rw [if_pos rfl]
    dsimp only
    rw [if_neg (show ¬ ((0 : Int) = 5) by decide), if_pos (by rfl), if_pos rfl, if_pos trivial, awake2]
    rfl
  · rw [if_neg h0]
    dsimp only
    rw [if_pos rfl, if_pos (by rw [L_toList]; rfl), if_pos trivial, awake2]
    rfl
theorem bursts_loop (s : ByteArray) (hs : s.size ≤ 300) (k m : Nat) (hm : m < 4294967296) (hk : k + 32 ≤ 8 * (s.size + 4)) : ∀ (d i : Nat) (x : List Int), i + d = 32 → Flipped (Crc.put (L s)) k i m x →
    boomeranglaw2_CrcBursts.l0 (d + 1) (m : Int) (ofL (Crc.put (L s))) x (k : Int) (i : Int) = some true
  | 0, i, x, hd, h => by
    obtain rfl : i = 32 := by omega
    exact bursts_end s hs k m hm hk x h 0
  | d + 1, i, x, hd, h => by
    have hl : (Crc.put (L s)).length = s.size + 4 := by rw [Crc.put, List.length_append, L_len, Crc.le4_length]
    have hst := flipped_step h hm (by omega : i < 32) (by rw [hl]; omega)
    have e1 : wrap64 ((k : Int) + (i : Int)) = ((k + i : Nat) : Int) := by rw [wrap_id (by omega) (by omega)]; rfl
    have e2 : wrap64 (Int.tdiv ((k + i : Nat) : Int) 8) = (((k + i) / 8 : Nat) : Int) := by
      rw [Int.tdiv_eq_ediv_of_nonneg (by omega), wrap_id (by omega) (by omega)]
      omega
    have e3 : wrap64 ((i : Int) + 1) = ((i + 1 : Nat) : Int) := by rw [wrap_id (by omega) (by omega)]; rfl
    have e4 : (0 : Int) ≤ Int.tmod ((k + i : Nat) : Int) 8 := Int.tmod_nonneg _ (by omega)
    have hx := h.len
    simp only [boomeranglaw2_CrcBursts.l0]
    rw [if_pos (by omega), e1, e2, if_pos (by omega), if_pos (by rw [hx, hl]; omega), if_pos (by omega), if_pos e4, e3]
    simp only [Int.toNat_natCast]
    exact bursts_loop s hs k m hm hk d (i + 1) _ (by omega) hst
theorem u16_range {x : Int} (h : (Lit.int .u16 x).wf = true) : 0 ≤ x ∧ x < 65536 := by
  have h1 : IntKind.u16.min ≤ x ∧ x ≤ IntKind.u16.max := by simpa [Lit.wf] using h
  have e1 : IntKind.u16.min = 0 := by decide
  have e2 : IntKind.u16.max = 65535 := by decide
  rw [e1, e2] at h1
  omega
theorem u32_range {x : Int} (h : (Lit.int .u32 x).wf = true) : 0 ≤ x ∧ x < 4294967296 := by
  have h1 : IntKind.u32.min ≤ x ∧ x ≤ IntKind.u32.max := by simpa [Lit.wf] using h
  have e1 : IntKind.u32.min = 0 := by decide
  have e2 : IntKind.u32.max = 4294967295 := by decide
  rw [e1, e2] at h1
  omega
theorem bursts_told (s : ByteArray) (hs3 : s.size ≤ 300) : crc_Get.f (ofL (Crc.put (L s))) = some (s, 0) := by
  have hl : (Crc.put (L s)).length = s.size + 4 := by rw [Crc.put, List.length_append, L_len, Crc.le4_length]
  rw [get_f _ (by rw [ofL_size, hl]; omega), L_ofL]
  unfold GetS
  have e4 : s.size + 4 - 4 = s.size := by omega
  have ht : (Crc.put (L s)).take s.size = L s := by rw [Crc.put, List.take_append_of_le_length (by rw [L_len]; omega), List.take_of_length_le (by rw [L_len]; omega)]
  rw [hl, if_neg (by omega), e4, ht, if_pos rfl, ofL_L]
theorem bursts_main (s : ByteArray) (hs3 : s.size ≤ 300) (at_ m f : Nat) (hat : at_ < 65536) (hm : m < 4294967296) (hf : f = 32) :
    boomeranglaw2_CrcBursts.j0 (f + 1 + 1) (at_ : Int) (m : Int) (ofL (Crc.put (L s))) false = some true := by
  have hl : (Crc.put (L s)).length = s.size + 4 := by rw [Crc.put, List.length_append, L_len, Crc.le4_length]
  have hb : (bytesOf (ofL (Crc.put (L s)))).length = s.size + 4 := by rw [bytesOf_length, ofL_size, hl]
  have e8 : wrap64 (8 * ((s.size + 4 : Nat) : Int)) = ((8 * (s.size + 4) : Nat) : Int) := by rw [wrap_id (by omega) (by omega)]; omega
  have e31 : wrap64 (((8 * (s.size + 4) : Nat) : Int) - 31) = ((8 * (s.size + 4) - 31 : Nat) : Int) := by rw [wrap_id (by omega) (by omega)]; omega
  have ea : wrap64 (at_ : Int) = (at_ : Int) := wrap_id (by omega) (by omega)
  have em : Int.tmod (at_ : Int) ((8 * (s.size + 4) - 31 : Nat) : Int) = ((at_ % (8 * (s.size + 4) - 31) : Nat) : Int) := by
    rw [Int.tmod_eq_emod_of_nonneg (by omega)]; exact (Int.natCast_emod _ _).symm
  have hk : at_ % (8 * (s.size + 4) - 31) < 8 * (s.size + 4) - 31 := Nat.mod_lt _ (by omega)
  have hz := flipped_zero (ofL (Crc.put (L s))) (at_ % (8 * (s.size + 4) - 31)) m
  rw [L_ofL] at hz
  have hgo := bursts_loop s hs3 (at_ % (8 * (s.size + 4) - 31)) m hm (by omega) f 0 (bytesOf (ofL (Crc.put (L s)))) (by omega) hz
  rw [show ((0 : Nat) : Int) = 0 from rfl] at hgo
  simp only [boomeranglaw2_CrcBursts.j0]
  rw [if_neg (by decide), if_pos (by rw [ofL_size, hl]; omega), Option.bind_some]
  rw [hb, e8, e31, if_neg (by omega), ea, em]
  exact hgo

theorem CrcBursts : boomeranglaw2_CrcBursts.Pure := by
  intro s a1 a2 hs h1 h2
  have r1 := u16_range h1
  have r2 := u32_range h2
  clear h1 h2
  obtain ⟨at_, rfl⟩ : ∃ n : Nat, a1 = (n : Int) := ⟨a1.toNat, by omega⟩
  obtain ⟨m, rfl⟩ : ∃ n : Nat, a2 = (n : Int) := ⟨a2.toNat, by omega⟩
  obtain ⟨f, hf⟩ : ∃ f : Nat, f = 32 := ⟨32, rfl⟩
  refine ⟨f + 1 + 1, ?_⟩
  unfold boomeranglaw2_CrcBursts.f
  by_cases hbig : (s.size : Int) > 300
  · rw [if_pos hbig, awake2]; rfl
  · have hs3 : s.size ≤ 300 := by omega
    have hl : (Crc.put (L s)).length = s.size + 4 := by rw [Crc.put, List.length_append, L_len, Crc.le4_length]
    have ew : wrap64 ((s.size : Int) + 4) = (s.size : Int) + 4 := wrap_id (by omega) (by omega)
    have hz : ((ofL (Crc.put (L s))).size : Int) = (s.size : Int) + 4 := by rw [ofL_size, hl]; omega
    rw [if_neg hbig, put_f s (by omega), Option.bind_some, bursts_told s hs3, Option.bind_some, ew, if_pos hz, if_pos rfl]
    exact bursts_main s hs3 at_ m f (by omega) (by omega) hf

end Go.Proofs.Ythhigjfkekdmiaa.Pure
