/- For all texts, places and 32 bits: a record of which up to 32 bits side by side of its text, or of its sum, are turned is not told, nor any behind it. Condition: each text takes at most 140737488351232 bytes. -/
import Derived.Test.YthhigjfkekdmiaaRoundB
import Derived.Test.YthhigjfkekdmiaaFlip
import Derived.Test.YthhigjfkekdmiaaM23
set_option linter.unusedSimpArgs false
set_option linter.unusedVariables false
namespace Go.Proofs.Ythhigjfkekdmiaa.Pure
open Go.RowKit Go.Proofs.Ythhigjfkekdmiaa Go.Proofs.Ythhigjfkekdmiaa.M Go.Proofs.YthhigjfkekdmiaaW.PrintWords Go.Proofs.YthhigjfkekdmiaaW.PrintLast Go.Proofs.YthhigjfkekdmiaaW.PrintMore Go.Proofs.Ythhigjfkekdmiaa.B

/-- A byte's bits are the byte. -/
theorem spoilt_head {p : List UInt8} {k m : Nat} {x : List Int} (h : Flipped p k 32 m x) (hk : 8 ≤ k) (hp : 0 < p.length) : (L (strOfNums x)).getD 0 0 = p.getD 0 0 := by
  apply UInt8.toNat_inj.1
  apply Nat.eq_of_testBit_eq
  intro q
  by_cases hq : q < 8
  · have ht := flipped_bit h q (by omega)
    have e1 : q / 8 = 0 := by omega
    have e2 : q % 8 = q := by omega
    have e3 : ¬ (k ≤ q ∧ q < k + 32) := by omega
    rw [e1, e2, decide_eq_false e3] at ht
    rw [ht]
    simp
  · have g : ∀ c : UInt8, c.toNat.testBit q = false := fun c => Nat.testBit_lt_two_pow (Nat.lt_of_lt_of_le c.toNat_lt (Nat.pow_le_pow_right (by decide) (by omega)))
    rw [g, g]
theorem spoilt_all (s : List UInt8) (hs : s.length < 64) (more : List UInt8) (k m : Nat) (hm : m < 4294967296) (hm0 : m ≠ 0) (hk : 8 ≤ k) (hk2 : k + 32 ≤ 8 * (frm s).length) (x : List Int) (h : Flipped (frm s) k 32 m x) (d : Nat) :
    (allS (L (strOfNums x) ++ more) (d + 1) 0).l = [] ∧ (allS (L (strOfNums x) ++ more) (d + 1) 0).used = 0 ∧ (allS (L (strOfNums x) ++ more) (d + 1) 0).e = 5 := by
  have hl := flipped_len h
  have hf : frm s = UInt8.ofNat (2 * s.length) :: Crc.put s := by unfold frm; rw [leb_one hs]; rfl
  have hfl : (frm s).length = s.length + 5 := by rw [hf, List.length_cons, cput_len]
  have hh := spoilt_head h hk (by omega)
  have hne : L (strOfNums x) ≠ [] := fun e => by rw [e] at hl; simp at hl; omega
  obtain ⟨c, q, hq⟩ : ∃ c q, L (strOfNums x) = c :: q := List.exists_cons_of_ne_nil hne
  rw [hq, hf] at hh
  have hc : c = UInt8.ofNat (2 * s.length) := hh
  have hql : q.length = s.length + 4 := by rw [hq, List.length_cons, hfl] at hl; omega
  have hx : L (strOfNums x) ++ more = leb (zz (s.length : Int)) ++ (q ++ more) := by rw [hq, hc, leb_one hs]; rfl
  have hll : (leb (zz (s.length : Int))).length = 1 := by rw [leb_one hs]; rfl
  have hlen : (L (strOfNums x) ++ more).length = s.length + 5 + more.length := by rw [List.length_append, hl, hfl]
  have hg : getS (L (strOfNums x) ++ more) 0 = ((s.length : Int), 1, 0) := by
    unfold getS
    rw [List.drop_zero, hx, read_put (by omega), fin_ok, hll]
    rfl
  have hput : ¬ Crc.put (q.take s.length) = q := by
    intro he
    have hcl := cput_len s
    have hv := Crc.burst (Crc.put s) q (by rw [hcl, hql]) (k - 8) (BitVec.ofNat 32 m) (by omega) (fun t ht => by
      have hb := flipped_bit h (t + 8) (by omega)
      have e1 : (t + 8) / 8 = t / 8 + 1 := by omega
      have e2 : (t + 8) % 8 = t % 8 := by omega
      rw [hq, hf, e1, e2, List.getD_cons_succ, List.getD_cons_succ] at hb
      rw [hb, BitVec.getLsbD_ofNat]
      congr 1
      have e3 : t + 8 - k = t - (k - 8) := by omega
      rw [e3]
      by_cases h1 : k - 8 ≤ t
      · by_cases h2 : t + 8 < k + 32
        · have h3 : t - (k - 8) < 32 := by omega
          have h4 : k ≤ t + 8 := by omega
          simp [h1, h2, h3, h4]
        · have h3 : ¬ t - (k - 8) < 32 := by omega
          simp [h1, h2, h3]
      · have h4 : ¬ k ≤ t + 8 := by omega
        simp [h1, h4]) Crc.full (by rw [Crc.reg_put, ← he, Crc.reg_put])
    have e := congrArg BitVec.toNat hv
    simp only [BitVec.toNat_ofNat] at e
    omega
  have hget : GetS q = ([], 5) := by
    unfold GetS
    rw [hql, if_neg (by omega), show s.length + 4 - 4 = s.length by omega, if_neg hput]
  have hcut : ((L (strOfNums x) ++ more).take (1 + (s.length : Int) + 4).toNat).drop (1 : Int).toNat = q := by
    have e1 : (1 + (s.length : Int) + 4).toNat = s.length + 4 + 1 := by omega
    rw [e1, hq]
    show (q ++ more).take (s.length + 4) = q
    rw [← hql, List.take_left]
  have hnx : nextS (L (strOfNums x) ++ more) 0 = ([], 5, 0) := by
    unfold nextS
    rw [hg, if_pos rfl]
    unfold afterS
    dsimp only
    rw [if_neg (by omega), if_neg (by rw [hlen]; omega), hcut, hget, if_neg (by decide)]
  simp only [allS]
  rw [if_neg (by rw [hlen]; omega), hnx, if_neg (by decide)]
  exact ⟨rfl, rfl, rfl⟩

theorem spoilt_end (s more : ByteArray) (hs : s.size < 64) (hm8 : more.size ≤ 2000) (k m : Nat) (hm : m < 4294967296) (hm0 : m ≠ 0) (hk : 8 ≤ k) (hk2 : k + 32 ≤ 8 * (s.size + 5)) (x : List Int) (h : Flipped (frm (L s)) k 32 m x) (f : Nat) (hf : 10000 ≤ f) :
    boomeranglaw3_FrameSpoilt.l0 (f + 1) (m : Int) more x (k : Int) 32 = some true := by
  have hll := L_len s
  have hfl : (frm (L s)).length = s.size + 5 := by rw [frm_length, hll, leb_one hs]; show 1 + s.size + 4 = _; omega
  have hl := flipped_len h
  have hxs : (strOfNums x).size = s.size + 5 := by rw [← L_len, hl, hfl]
  have hz : (strOfNums x ++ more).size = s.size + 5 + more.size := by rw [ByteArray.size_append, hxs]
  have hL : L (strOfNums x ++ more) = L (strOfNums x) ++ L more := L_append _ _
  have ha := spoilt_all (L s) (by omega) (L more) k m hm hm0 hk (by rw [hfl]; exact hk2) x h (strOfNums x ++ more).size
  simp only [boomeranglaw3_FrameSpoilt.l0]
  rw [if_neg (by omega), if_pos (by omega), all_f _ (by omega) f (by omega), Option.bind_some, hL]
  generalize allS (L (strOfNums x) ++ L more) ((strOfNums x ++ more).size + 1) 0 = r at *
  obtain ⟨r1, r2, r3⟩ := ha
  dsimp only
  rw [r1, r2, r3, if_pos (by rfl), if_pos rfl]
  unfold boomeranglaw1_Err.f
  rw [Option.bind_some, if_pos rfl, awake3 f (by omega)]
  rfl
theorem spoilt_loop (s more : ByteArray) (hs : s.size < 64) (hm8 : more.size ≤ 2000) (k m : Nat) (hm : m < 4294967296) (hm0 : m ≠ 0) (hk : 8 ≤ k) (hk2 : k + 32 ≤ 8 * (s.size + 5)) (f : Nat) (hf : 10000 ≤ f) : ∀ (d i : Nat) (x : List Int), i + d = 32 → Flipped (frm (L s)) k i m x →
    boomeranglaw3_FrameSpoilt.l0 (f + d + 1) (m : Int) more x (k : Int) (i : Int) = some true
  | 0, i, x, hd, h => by
    obtain rfl : i = 32 := by omega
    exact spoilt_end s more hs hm8 k m hm hm0 hk hk2 x h f hf
  | d + 1, i, x, hd, h => by
    have hll := L_len s
    have hfl : (frm (L s)).length = s.size + 5 := by rw [frm_length, hll, leb_one hs]; show 1 + s.size + 4 = _; omega
    have hst := flipped_step h hm (by omega : i < 32) (by omega)
    have e2 : wrap64 (Int.tdiv ((k + i : Nat) : Int) 8) = (((k + i) / 8 : Nat) : Int) := by
      rw [Int.tdiv_eq_ediv_of_nonneg (by omega), wrap_id (by omega) (by omega)]
      omega
    have e4 : (0 : Int) ≤ Int.tmod ((k + i : Nat) : Int) 8 := Int.tmod_nonneg _ (by omega)
    have hx := h.len
    have q1 : (i : Int) < 32 := by omega
    have q2 : (0 : Int) ≤ (((k + i) / 8 : Nat) : Int) := by omega
    have q3 : (((k + i) / 8 : Nat) : Int) < (x.length : Int) := by omega
    have q4 : (0 : Int) ≤ (i : Int) := by omega
    show boomeranglaw3_FrameSpoilt.l0 ((f + d + 1) + 1) _ _ _ _ _ = _
    simp only [boomeranglaw3_FrameSpoilt.l0]
    rw [if_pos q1, w_add k i (by omega), e2, if_pos q2, if_pos q3, if_pos q4, if_pos e4, w_succ i (by omega), Int.toNat_natCast]
    exact spoilt_loop s more hs hm8 k m hm hm0 hk hk2 f hf d (i + 1) _ (by omega) hst
theorem w8 (a : Nat) (h : a ≤ 1000000) : wrap64 (8 * (a : Int)) = ((8 * a : Nat) : Int) := by rw [wrap_id (by omega) (by omega)]; omega
theorem wm8 (a : Nat) (h0 : 8 ≤ a) (h : a ≤ 1000000000) : wrap64 ((a : Int) - 8) = ((a - 8 : Nat) : Int) := by rw [wrap_id (by omega) (by omega)]; omega
theorem wm31 (a : Nat) (h0 : 31 ≤ a) (h : a ≤ 1000000000) : wrap64 ((a : Int) - 31) = ((a - 31 : Nat) : Int) := by rw [wrap_id (by omega) (by omega)]; omega
theorem wp8 (a : Nat) (h : a ≤ 1000000000) : wrap64 (8 + (a : Int)) = ((8 + a : Nat) : Int) := by rw [wrap_id (by omega) (by omega)]; omega
theorem spoilt_j1 (s more : ByteArray) (hs : s.size < 64) (hm8 : more.size ≤ 2000) (at_ m : Nat) (hat : at_ < 65536) (hm : m < 4294967296) (hm0 : m ≠ 0) (x0 : ByteArray) (e1 e2 : Int) (f : Nat) (hf : 10000 ≤ f) :
    boomeranglaw3_FrameSpoilt.j1 (f + 32 + 1 + 1) x0 (at_ : Int) (m : Int) (ofL (frm (L s))) e1 more e2 false = some true := by
  have hll := L_len s
  have hfl : (frm (L s)).length = s.size + 5 := by rw [frm_length, hll, leb_one hs]; show 1 + s.size + 4 = _; omega
  have hb : (bytesOf (ofL (frm (L s)))).length = s.size + 5 := by rw [bytesOf_length, ofL_size, hfl]
  have hz := flipped_zero (ofL (frm (L s))) (8 + at_ % (8 * (s.size + 5) - 8 - 31)) m
  rw [L_ofL] at hz
  have hk : at_ % (8 * (s.size + 5) - 8 - 31) < 8 * (s.size + 5) - 8 - 31 := Nat.mod_lt _ (by omega)
  have hgo := spoilt_loop s more hs hm8 (8 + at_ % (8 * (s.size + 5) - 8 - 31)) m hm hm0 (by omega) (by omega) f hf 32 0 (bytesOf (ofL (frm (L s)))) (by omega) hz
  rw [show ((0 : Nat) : Int) = 0 from rfl] at hgo
  have em : Int.tmod (at_ : Int) ((8 * (s.size + 5) - 8 - 31 : Nat) : Int) = ((at_ % (8 * (s.size + 5) - 8 - 31) : Nat) : Int) := by
    rw [Int.tmod_eq_emod_of_nonneg (by omega)]; exact (Int.natCast_emod _ _).symm
  have hne : ¬ ((8 * (s.size + 5) - 8 - 31 : Nat) : Int) = 0 := by omega
  have hsz : (ofL (frm (L s))).size ≤ 9223372036854775807 := by rw [ofL_size, hfl]; omega
  have ea : wrap64 (at_ : Int) = (at_ : Int) := wrap_id (by omega) (by omega)
  have a8 := w8 (s.size + 5) (by omega)
  have a9 := wm8 (8 * (s.size + 5)) (by omega) (by omega)
  have a31 := wm31 (8 * (s.size + 5) - 8) (by omega) (by omega)
  have ew := wp8 (at_ % (8 * (s.size + 5) - 8 - 31)) (by clear a8 a9 a31 ea; omega)
  simp only [boomeranglaw3_FrameSpoilt.j1]
  rw [if_neg (by decide), if_pos hsz, Option.bind_some, hb, a8, a9, a31, if_neg hne, ea, em, ew]
  exact hgo
theorem spoilt_t (s t : ByteArray) (x y : Int) (k : Nat) (hk : 100 ≤ k) : boomeranglaw3_FrameSpoilt.j0 (k + 1) s t x y true = some true := by
  simp only [boomeranglaw3_FrameSpoilt.j0]
  rw [if_pos trivial, awake3 k hk]
  rfl
theorem spoilt_j0 (s t : ByteArray) (hs : s.size ≤ 100) (ht : t.size ≤ 100) (at_ m : Nat) (hat : at_ < 65536) (hm : m < 4294967296) (hm0 : m ≠ 0) (f : Nat) (hf : 100000 ≤ f) :
    boomeranglaw3_FrameSpoilt.j0 (f + 32 + 1 + 1 + 1) s t (at_ : Int) (m : Int) false = some true := by
  have hp : ∀ r : ByteArray, r.size ≤ 100 → putF (L r) = (frm (L r), 0) := fun r hr => by unfold putF; rw [L_len, if_neg (by omega)]
  have hw0 : wrap64 (0 + 0) = 0 := wrap_id (by omega) (by omega)
  have hw5 : wrap64 ((s.size : Int) + 5) = (s.size : Int) + 5 := wrap_id (by omega) (by omega)
  simp only [boomeranglaw3_FrameSpoilt.j0]
  rw [if_neg (by decide), fput_f s (by omega) _ (by omega), Option.bind_some, fput_f t (by omega) _ (by omega), Option.bind_some, hp s hs, hp t ht]
  dsimp only
  unfold boomeranglaw1_Err.f
  rw [Option.bind_some, Option.bind_some, hw0, if_pos rfl, hw5]
  have hll := L_len s
  have hll2 := L_len t
  have hfl := frm_length (L s)
  have hft := frm_length (L t)
  have hvl := vput_len (i64_nat (n := (L t).length) (by omega))
  by_cases h64 : s.size < 64
  · have h1 : (leb (zz ((L s).length : Int))).length = 1 := by rw [leb_one (by omega)]; rfl
    have hb : (((ofL (frm (L s))).size : Int) != (s.size : Int) + 5) = false := by
      rw [bne_eq_false_iff_eq, ofL_size]; omega
    rw [hb]
    have htz : (ofL (frm (L t))).size ≤ 2000 := by rw [ofL_size]; omega
    exact spoilt_j1 s (ofL (frm (L t))) h64 htz at_ m hat hm hm0 s 0 0 f (by omega)
  · have h2 : (leb (zz ((L s).length : Int))).length = 2 := by rw [leb_two (by omega) (by omega)]; rfl
    have hb : (((ofL (frm (L s))).size : Int) != (s.size : Int) + 5) = true := by
      rw [bne_iff_ne, ofL_size]; omega
    rw [hb]
    simp only [boomeranglaw3_FrameSpoilt.j1]
    unfold boomeranglaw1_Err.f
    rw [if_pos trivial, Option.bind_some, Option.bind_some, hw0, if_pos rfl, if_pos (by omega), awake3 _ (by omega)]
    rfl
theorem wf16 {x : Int} (h : (Lit.int .u16 x).wf = true) : 0 ≤ x ∧ x < 65536 := by
  have h1 : IntKind.u16.min ≤ x ∧ x ≤ IntKind.u16.max := by simpa [Lit.wf] using h
  have e1 : IntKind.u16.min = 0 := by decide
  have e2 : IntKind.u16.max = 65535 := by decide
  rw [e1, e2] at h1
  omega
theorem wf32 {x : Int} (h : (Lit.int .u32 x).wf = true) : 0 ≤ x ∧ x < 4294967296 := by
  have h1 : IntKind.u32.min ≤ x ∧ x ≤ IntKind.u32.max := by simpa [Lit.wf] using h
  have e1 : IntKind.u32.min = 0 := by decide
  have e2 : IntKind.u32.max = 4294967295 := by decide
  rw [e1, e2] at h1
  omega

theorem FrameSpoilt : boomeranglaw3_FrameSpoilt.Pure := by
  intro s t a2 a3 hs ht h2 h3
  have r2 := wf16 h2
  have r3 := wf32 h3
  clear h2 h3
  obtain ⟨at_, rfl⟩ : ∃ n : Nat, a2 = (n : Int) := ⟨a2.toNat, by omega⟩
  obtain ⟨m, rfl⟩ : ∃ n : Nat, a3 = (n : Int) := ⟨a3.toNat, by omega⟩
  obtain ⟨f, hf⟩ : ∃ f : Nat, f = 100000 := ⟨_, rfl⟩
  refine ⟨f + 32 + 1 + 1 + 1, ?_⟩
  unfold boomeranglaw3_FrameSpoilt.f
  by_cases h1 : (s.size : Int) > 100
  · rw [if_pos h1]; exact spoilt_t s t _ _ _ (by omega)
  · rw [if_neg h1]
    by_cases h2 : (t.size : Int) > 100
    · rw [if_pos h2]; exact spoilt_t s t _ _ _ (by omega)
    · rw [if_neg h2]
      by_cases h3 : m = 0
      · subst h3
        exact spoilt_t s t _ _ _ (by omega)
      · have hb : ((m : Int) == 0) = false := by rw [beq_eq_false_iff_ne]; omega
        rw [hb]
        exact spoilt_j0 s t (by omega) (by omega) at_ m (by omega) (by omega) h3 f (by omega)

end Go.Proofs.Ythhigjfkekdmiaa.Pure
