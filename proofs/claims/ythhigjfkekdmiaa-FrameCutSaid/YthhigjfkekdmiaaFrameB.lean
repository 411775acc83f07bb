/- Records side by side: what the program's Put, next, All and the reference's PutFrame, AllFrames, Used, SameTexts compute, as one. -/
import Derived.Test.YthhigjfkekdmiaaVintB
import Derived.Test.YthhigjfkekdmiaaM10
import Derived.Test.YthhigjfkekdmiaaM14
import Derived.Test.YthhigjfkekdmiaaM15
import Derived.Test.YthhigjfkekdmiaaM17
import Derived.Test.YthhigjfkekdmiaaM18
set_option linter.unusedSimpArgs false
set_option linter.unusedVariables false
namespace Go.Proofs.Ythhigjfkekdmiaa.B
open Go.RowKit Go.Proofs.Ythhigjfkekdmiaa Go.Proofs.Ythhigjfkekdmiaa.M Go.Proofs.YthhigjfkekdmiaaW.PrintWords Go.Proofs.YthhigjfkekdmiaaW.PrintLast Go.Proofs.YthhigjfkekdmiaaW.PrintMore

theorem cput_len (l : List UInt8) : (Crc.put l).length = l.length + 4 := by rw [Crc.put, List.length_append, Crc.le4_length]
/-- A record's bytes. -/
def frm (l : List UInt8) : List UInt8 := leb (zz (l.length : Int)) ++ Crc.put l
def putF (l : List UInt8) : List UInt8 × Int := if l.length > 4096 then ([], 6) else (frm l, 0)
theorem i64_nat {n : Nat} (h : n ≤ 9223372036854770000) : I64 (n : Int) := ⟨by omega, by omega⟩
theorem frm_len {l : List UInt8} (h : l.length ≤ 9223372036854770000) : l.length + 5 ≤ (frm l).length ∧ (frm l).length ≤ l.length + 14 := by
  have h1 := vput_len (i64_nat h)
  unfold frm
  rw [List.length_append, cput_len]
  omega
theorem fput_f (s : ByteArray) (hs : s.size ≤ 9223372036854700000) (k : Nat) (hk : 10 ≤ k) : frame_Put.f k s = some (ofL (putF (L s)).1, (putF (L s)).2) := by
  unfold frame_Put.f putF
  rw [L_len]
  by_cases h : s.size > 4096
  · rw [if_pos (by omega), if_pos h]; rfl
  · have h1 := vput_len (i64_nat (n := s.size) (by omega))
    rw [if_neg (by omega), if_neg h, vput_f (i64_nat (by omega)) k hk, Option.bind_some, put_f s (by omega), Option.bind_some, if_pos (by rw [ofL_size, ofL_size, cput_len, L_len]; omega)]
    refine congrArg some (Prod.ext (eq_ofL ?_) rfl)
    rw [L_append, L_ofL, L_ofL]
    dsimp only
    unfold frm
    rw [L_len]
theorem ref_fput_f (s : ByteArray) (hs : s.size ≤ 9223372036854700000) (k : Nat) (hk : 10 ≤ k) (hk2 : 50000 ≤ k) : boomerangref1_PutFrame.f k s = some (ofL (putF (L s)).1, 0, (putF (L s)).2) := by
  unfold boomerangref1_PutFrame.f putF
  rw [L_len]
  by_cases h : s.size > 4096
  · rw [if_pos (by omega), if_pos h]; rfl
  · have h1 := vput_len (i64_nat (n := s.size) (by omega))
    rw [if_neg (by omega), if_neg h, ref_vput_f (i64_nat (by omega)) k hk, Option.bind_some, ref_put_f s (by omega) k (by omega), Option.bind_some, if_pos (by rw [ofL_size, ofL_size, cput_len, L_len]; omega)]
    refine congrArg some (Prod.ext (eq_ofL ?_) rfl)
    rw [L_append, L_ofL, L_ofL]
    dsimp only
    unfold frm
    rw [L_len]

/-- The record that stands at a place: its text, the error, the place behind it. -/
def afterS (l : List UInt8) (n a : Int) : List UInt8 × Int × Int :=
  if n < 0 ∨ n > 4096 then ([], 4, 0) else if (l.length : Int) - a < n + 4 then ([], 3, 0) else
    if (GetS ((l.take (a + n + 4).toNat).drop a.toNat)).2 = 0 then ((GetS ((l.take (a + n + 4).toNat).drop a.toNat)).1, 0, a + n + 4) else ([], (GetS ((l.take (a + n + 4).toNat).drop a.toNat)).2, 0)
def nextS (l : List UInt8) (at_ : Nat) : List UInt8 × Int × Int :=
  if (getS l at_).2.2 = 0 then afterS l (getS l at_).1 (getS l at_).2.1 else ([], (getS l at_).2.2, 0)
theorem GetS_err (l : List UInt8) (h : (GetS l).2 ≠ 0) : (GetS l).1 = [] := by
  revert h
  unfold GetS
  split
  · intro _; rfl
  · split
    · intro h; exact absurd rfl h
    · intro _; rfl
theorem getS_ok (l : List UInt8) (at_ : Nat) (hat : at_ ≤ l.length) (h : (getS l at_).2.2 = 0) : (at_ : Int) + 1 ≤ (getS l at_).2.1 ∧ (getS l at_).2.1 ≤ l.length ∧ I64 (getS l at_).1 := by
  have hf := readS_facts (l.drop at_)
  rw [List.length_drop] at hf
  unfold getS fin at h ⊢
  by_cases h0 : (readS (l.drop at_)).2.2 = 0
  · obtain ⟨h1, h2, h3⟩ := hf.2.1 h0
    rw [if_pos h0]
    refine ⟨?_, ?_, h3⟩ <;> dsimp only <;> omega
  · rw [if_neg h0] at h
    exact absurd h h0
theorem after_prog (s : ByteArray) (hs : s.size ≤ 9223372036854700000) (n a : Int) (hn : I64 n) (ha0 : 0 ≤ a) (ha : a ≤ s.size) (k : Nat) :
    frame_next.j0 (k + 1) s a n (if n < 0 then true else decide (n > 4096)) (⟨#[]⟩ : ByteArray) 0 = some (ofL (afterS (L s) n a).1, (afterS (L s) n a).2.1, (afterS (L s) n a).2.2) := by
  obtain ⟨n0, n1⟩ := hn
  simp only [frame_next.j0]
  unfold afterS
  rw [L_len]
  by_cases h1 : n < 0 ∨ n > 4096
  · have hb : (if n < 0 then true else decide (n > 4096)) = true := by
      split
      · rfl
      · exact decide_eq_true (by omega)
    rw [hb, if_pos rfl, if_pos h1]; rfl
  · have hb : (if n < 0 then true else decide (n > 4096)) = false := by
      rw [if_neg (by omega)]; exact decide_eq_false (by omega)
    rw [hb, if_neg (by decide), if_neg h1, wrap_id (x := (s.size : Int) - a) (by omega) (by omega), wrap_id (x := n + 4) (by omega) (by omega), wrap_id (x := a + n) (by omega) (by omega), wrap_id (x := a + n + 4) (by omega) (by omega)]
    by_cases h2 : (s.size : Int) - a < n + 4
    · rw [if_pos h2, if_pos h2]; rfl
    · rw [if_neg h2, if_neg h2, if_pos ha0, if_pos (by omega), if_pos (by omega)]
      have hx : L (s.extract a.toNat (a + n + 4).toNat) = ((L s).take (a + n + 4).toNat).drop a.toNat := L_extract s _ _
      have hxl : (((L s).take (a + n + 4).toNat).drop a.toNat).length ≤ s.size := by rw [List.length_drop, List.length_take, L_len]; omega
      rw [get_f _ (by rw [← L_len, hx]; omega), hx, Option.bind_some]
      generalize ((L s).take (a + n + 4).toNat).drop a.toNat = y
      by_cases h3 : (GetS y).2 = 0
      · rw [if_pos h3, if_pos h3]; dsimp only; rw [h3]
      · rw [if_neg h3, if_neg h3]; dsimp only; rw [GetS_err y h3]
theorem next_f (s : ByteArray) (hs : s.size ≤ 9223372036854700000) (at_ : Nat) (hat : at_ ≤ s.size) (k : Nat) (hk : 23 ≤ k) :
    frame_next.f k s (at_ : Int) = some (ofL (nextS (L s) at_).1, (nextS (L s) at_).2.1, (nextS (L s) at_).2.2) := by
  obtain ⟨k, rfl⟩ : ∃ m, k = m + 1 := ⟨k - 1, by omega⟩
  have hg := getS_ok (L s) at_ (by rw [L_len]; exact hat)
  unfold frame_next.f nextS
  rw [vget_f s (by omega) at_ hat (k + 1) (by omega), Option.bind_some]
  rw [L_len] at hg
  generalize getS (L s) at_ = g at *
  by_cases h : g.2.2 = 0
  · obtain ⟨h1, h2, h3⟩ := hg h
    rw [if_pos h, if_pos h]
    have hp := after_prog s hs g.1 g.2.1 h3 (by omega) h2 k
    by_cases hn : g.1 < 0
    · rw [if_pos hn] at hp ⊢; exact hp
    · rw [if_neg hn] at hp ⊢; exact hp
  · rw [if_neg h, if_neg h]; rfl
theorem nextS_ok (l : List UInt8) (at_ : Nat) (hat : at_ ≤ l.length) (h : (nextS l at_).2.1 = 0) : (at_ : Int) + 5 ≤ (nextS l at_).2.2 ∧ (nextS l at_).2.2 ≤ l.length := by
  have hg := getS_ok l at_ hat
  unfold nextS at h ⊢
  generalize getS l at_ = g at *
  by_cases h0 : g.2.2 = 0
  · obtain ⟨h1, h2, h3⟩ := hg h0
    rw [if_pos h0] at h ⊢
    unfold afterS at h ⊢
    by_cases h4 : g.1 < 0 ∨ g.1 > 4096
    · rw [if_pos h4] at h; exact absurd h (by decide)
    · rw [if_neg h4] at h ⊢
      by_cases h5 : (l.length : Int) - g.2.1 < g.1 + 4
      · rw [if_pos h5] at h; exact absurd h (by decide)
      · rw [if_neg h5] at h ⊢
        by_cases h6 : (GetS ((l.take (g.2.1 + g.1 + 4).toNat).drop g.2.1.toNat)).2 = 0
        · rw [if_pos h6]; dsimp only; omega
        · rw [if_neg h6] at h; exact absurd h h6
  · rw [if_neg h0] at h; exact absurd h h0

/-- All records from a place on: texts, where each ends, how far they go, the error. -/
structure Rec where
  l : List (List UInt8)
  ends : List Int
  used : Int
  e : Int
def allS (l : List UInt8) : Nat → Nat → Rec
  | 0, at_ => ⟨[], [], (at_ : Int), 0⟩
  | d + 1, at_ => if l.length ≤ at_ then ⟨[], [], (at_ : Int), 0⟩ else
      if (nextS l at_).2.1 = 0 then
        ⟨(nextS l at_).1 :: (allS l d (nextS l at_).2.2.toNat).l, (nextS l at_).2.2 :: (allS l d (nextS l at_).2.2.toNat).ends, (allS l d (nextS l at_).2.2.toNat).used, (allS l d (nextS l at_).2.2.toNat).e⟩
      else ⟨[], [], (at_ : Int), (nextS l at_).2.1⟩
theorem all_l0 (s : ByteArray) (hs : s.size ≤ 1000000) : ∀ (d at_ : Nat) (x : List ByteArray) (k : Nat), s.size < at_ + d → at_ ≤ s.size → 24 + d ≤ k → x.length ≤ at_ →
    frame_All.l0 k s x (at_ : Int) = some (x ++ (allS (L s) d at_).l.map ofL, (allS (L s) d at_).used, (allS (L s) d at_).e)
  | 0, at_, x, k, h1, h2, _, _ => absurd h1 (by omega)
  | d + 1, at_, x, k, h1, h2, hk, hx => by
    obtain ⟨k, rfl⟩ : ∃ m, k = m + 1 := ⟨k - 1, by omega⟩
    have hok := nextS_ok (L s) at_ (by rw [L_len]; exact h2)
    rw [L_len] at hok
    simp only [frame_All.l0, allS]
    rw [L_len]
    by_cases h : s.size ≤ at_
    · rw [if_neg (by omega), if_pos h]; simp
    · rw [if_pos (by omega), if_neg h, next_f s (by omega) at_ h2 k (by omega), Option.bind_some]
      generalize nextS (L s) at_ = y at *
      by_cases he : y.2.1 = 0
      · obtain ⟨o1, o2⟩ := hok he
        rw [if_pos he, if_pos he, if_pos (by omega)]
        obtain ⟨b, hb⟩ : ∃ b : Nat, y.2.2 = (b : Int) := ⟨y.2.2.toNat, by omega⟩
        rw [hb] at o1 o2 ⊢
        rw [all_l0 s hs d b _ k (by omega) (by omega) (by omega) (by simp; omega), Int.toNat_natCast]
        simp
      · rw [if_neg he, if_neg he]; simp
theorem all_f (s : ByteArray) (hs : s.size ≤ 1000000) (k : Nat) (hk : 30 + s.size ≤ k) : frame_All.f k s = some ((allS (L s) (s.size + 1) 0).l.map ofL, (allS (L s) (s.size + 1) 0).used, (allS (L s) (s.size + 1) 0).e) := by
  unfold frame_All.f
  have h := all_l0 s hs (s.size + 1) 0 [] k (by omega) (by omega) (by omega) (by simp)
  rw [show ((0 : Nat) : Int) = 0 from rfl] at h
  rw [h]; simp
theorem ref_all_l0 (s : ByteArray) (hs : s.size ≤ 1000000) : ∀ (d at_ : Nat) (x : List ByteArray) (z : List Int) (k : Nat), s.size < at_ + d → at_ ≤ s.size → 10 * s.size + 50000 + 3 * d ≤ k → x.length ≤ at_ → z.length ≤ at_ →
    boomerangref1_AllFrames.l0 k s (at_ : Int) x z 0 = some (x ++ (allS (L s) d at_).l.map ofL, z ++ (allS (L s) d at_).ends, (allS (L s) d at_).e)
  | 0, at_, x, z, k, h1, h2, _, _, _ => absurd h1 (by omega)
  | d + 1, at_, x, z, k, h1, h2, hk, hx, hz => by
    obtain ⟨k, rfl⟩ : ∃ m, k = m + 1 + 1 + 1 := ⟨k - 3, by omega⟩
    have hok := nextS_ok (L s) at_ (by rw [L_len]; exact h2)
    have hg := getS_ok (L s) at_ (by rw [L_len]; exact h2)
    rw [L_len] at hok hg
    simp only [boomerangref1_AllFrames.l0, allS]
    rw [L_len]
    by_cases h : s.size ≤ at_
    · rw [if_neg (by omega), if_pos h]; simp
    · rw [if_pos (by omega), if_neg h, ref_vget_f s (by omega) at_ h2 _ (by omega), Option.bind_some]
      unfold nextS at hok ⊢
      generalize getS (L s) at_ = g at *
      by_cases he : g.2.2 = 0
      · obtain ⟨q1, q2, q3, q4⟩ := hg he
        rw [if_pos he] at hok
        rw [if_pos he, if_pos he]
        have hb : (if g.1 < 0 then boomerangref1_AllFrames.j1 (k + 1 + 1) s true x z 0 g.1 g.2.1 g.2.2 else boomerangref1_AllFrames.j1 (k + 1 + 1) s (decide (g.1 > 4096)) x z 0 g.1 g.2.1 g.2.2) = boomerangref1_AllFrames.j1 (k + 1 + 1) s (decide (g.1 < 0 ∨ g.1 > 4096)) x z 0 g.1 g.2.1 g.2.2 := by
          by_cases hn : g.1 < 0
          · rw [if_pos hn, decide_eq_true (.inl hn)]
          · rw [if_neg hn]
            congr 1
            apply decide_eq_decide.2
            omega
        rw [hb]
        simp only [boomerangref1_AllFrames.j1]
        unfold afterS at hok ⊢
        rw [L_len] at hok ⊢
        by_cases h4 : g.1 < 0 ∨ g.1 > 4096
        · rw [decide_eq_true h4, if_pos rfl, if_pos h4, if_neg (by decide)]
          simp only [boomerangref1_AllFrames.j2]
          rw [if_neg (by decide)]; simp
        · rw [decide_eq_false h4, if_neg (by decide), if_neg h4, wrap_id (x := (s.size : Int) - g.2.1) (by omega) (by omega), wrap_id (x := g.1 + 4) (by omega) (by omega)]
          rw [if_neg h4] at hok
          by_cases h5 : (s.size : Int) - g.2.1 < g.1 + 4
          · rw [if_pos h5, if_pos h5, if_neg (by decide)]
            simp only [boomerangref1_AllFrames.j2]
            rw [if_neg (by decide)]; simp
          · rw [if_neg h5, if_neg h5]
            rw [if_neg h5] at hok
            simp only [boomerangref1_AllFrames.j2]
            rw [if_pos trivial, wrap_id (x := g.2.1 + g.1) (by omega) (by omega), wrap_id (x := g.2.1 + g.1 + 4) (by omega) (by omega), if_pos (by omega), if_pos (by omega), if_pos (by omega)]
            have hxe : L (s.extract g.2.1.toNat (g.2.1 + g.1 + 4).toNat) = ((L s).take (g.2.1 + g.1 + 4).toNat).drop g.2.1.toNat := L_extract s _ _
            have hxl : (((L s).take (g.2.1 + g.1 + 4).toNat).drop g.2.1.toNat).length ≤ s.size := by rw [List.length_drop, List.length_take, L_len]; omega
            have hxs : (s.extract g.2.1.toNat (g.2.1 + g.1 + 4).toNat).size ≤ s.size := by rw [← L_len, hxe]; exact hxl
            rw [ref_get_f _ (by omega) k (by omega), hxe, Option.bind_some]
            generalize ((L s).take (g.2.1 + g.1 + 4).toNat).drop g.2.1.toNat = y at *
            by_cases h6 : (GetS y).2 = 0
            · rw [if_pos h6] at hok
              obtain ⟨o1, o2⟩ := hok rfl
              have o1' : (at_ : Int) + 5 ≤ g.2.1 + g.1 + 4 := o1
              have o2' : g.2.1 + g.1 + 4 ≤ (s.size : Int) := o2
              rw [if_pos h6, if_pos h6, if_pos rfl, if_pos (by omega), if_pos (by omega)]
              clear hok o1 o2
              dsimp only
              obtain ⟨b, hbn⟩ : ∃ b : Nat, g.2.1 + g.1 + 4 = (b : Int) := ⟨(g.2.1 + g.1 + 4).toNat, by omega⟩
              rw [hbn] at o1' o2' ⊢
              rw [ref_all_l0 s hs d b _ _ k (by omega) (by omega) (by omega) (by simp; omega) (by simp; omega), Int.toNat_natCast]
              simp
            · rw [if_neg h6, if_neg h6, if_neg h6]; simp
      · rw [if_neg he, if_neg he, if_neg he]
        simp only [boomerangref1_AllFrames.j2]
        rw [if_neg he]; simp
theorem ref_all_f (s : ByteArray) (hs : s.size ≤ 1000000) (k : Nat) (hk : 13 * s.size + 50010 ≤ k) : boomerangref1_AllFrames.f k s = some ((allS (L s) (s.size + 1) 0).l.map ofL, (allS (L s) (s.size + 1) 0).ends, (allS (L s) (s.size + 1) 0).e) := by
  unfold boomerangref1_AllFrames.f
  have h := ref_all_l0 s hs (s.size + 1) 0 [] [] k (by omega) (by omega) (by omega) (by simp) (by simp)
  rw [show ((0 : Nat) : Int) = 0 from rfl] at h
  rw [h]; simp

theorem same_l0 (x : List ByteArray) (hx : x.length ≤ 1000000) : ∀ (d i k : Nat), i + d = x.length → d < k → boomerangref1_SameTexts.l0 k x x (i : Int) = some true
  | 0, i, k, h, hk => by
    obtain ⟨k, rfl⟩ : ∃ m, k = m + 1 := ⟨k - 1, by omega⟩
    simp only [boomerangref1_SameTexts.l0]
    rw [if_neg (by omega)]
  | d + 1, i, k, h, hk => by
    obtain ⟨k, rfl⟩ : ∃ m, k = m + 1 := ⟨k - 1, by omega⟩
    simp only [boomerangref1_SameTexts.l0]
    rw [if_pos (by omega), if_pos (by omega), if_pos (by omega), if_pos trivial, w_succ i (by omega)]
    exact same_l0 x hx d (i + 1) k (by omega) (by omega)
theorem same_f (x : List ByteArray) (hx : x.length ≤ 1000000) (k : Nat) (hk : x.length < k) : boomerangref1_SameTexts.f k x x = some true := by
  unfold boomerangref1_SameTexts.f
  rw [if_pos rfl]
  have h := same_l0 x hx x.length 0 k (by omega) hk
  rw [show ((0 : Nat) : Int) = 0 from rfl] at h
  exact h
theorem allS_used (l : List UInt8) : ∀ (d at_ : Nat), l.length < at_ + d → at_ ≤ l.length → (allS l d at_).used = (allS l d at_).ends.getLastD (at_ : Int) ∧ (allS l d at_).ends.length ≤ d ∧ (allS l d at_).l.length = (allS l d at_).ends.length
  | 0, at_, h1, h2 => absurd h1 (by omega)
  | d + 1, at_, h1, h2 => by
    have hok := nextS_ok l at_ h2
    simp only [allS]
    by_cases h : l.length ≤ at_
    · rw [if_pos h]; simp
    · rw [if_neg h]
      generalize nextS l at_ = y at *
      by_cases he : y.2.1 = 0
      · obtain ⟨o1, o2⟩ := hok he
        rw [if_pos he]
        have ih := allS_used l d y.2.2.toNat (by omega) (by omega)
        have hb : ((y.2.2.toNat : Nat) : Int) = y.2.2 := by omega
        rw [hb] at ih
        dsimp only
        refine ⟨?_, by simp; omega, by simp; omega⟩
        rw [ih.1]
        cases (allS l d y.2.2.toNat).ends <;> rfl
      · rw [if_neg he]; simp
theorem used_f (x : List ByteArray) (z : List Int) (e : Int) (hz : z.length ≤ 1000001) : boomerangref1_Rows_Used.f x z e = some (z.getLastD 0) := by
  unfold boomerangref1_Rows_Used.f
  by_cases h : z.length = 0
  · obtain rfl := List.eq_nil_of_length_eq_zero h
    rfl
  · have e1 : wrap64 ((z.length : Int) - 1) = ((z.length - 1 : Nat) : Int) := by rw [wrap_id (by omega) (by omega)]; omega
    rw [if_neg (by omega), e1, if_pos (by omega), if_pos (by omega)]
    refine congrArg some ?_
    unfold rd
    rw [Int.toNat_natCast]
    have hne : z ≠ [] := fun h0 => h (by rw [h0]; rfl)
    rw [List.getD_eq_getElem?_getD, List.getLastD_eq_getLast?, List.getLast?_eq_getElem?]
theorem awake3 (k : Nat) (hk : 100 ≤ k) : boomeranglaw3_awake.f k = some true := by
  have h : boomeranglaw3_awake.f 100 = some true := by decide +kernel
  exact at_rounds (fun k => boomeranglaw3_awake.mono k) hk h

end Go.Proofs.Ythhigjfkekdmiaa.B
