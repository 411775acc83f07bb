/- For all lists of texts: records of two rows, one behind the other, are those of both; an empty one is one. Condition: none. -/
import Derived.Test.YthhigjfkekdmiaaRoundB
import Derived.Test.YthhigjfkekdmiaaM22
set_option linter.unusedSimpArgs false
set_option linter.unusedVariables false
namespace Go.Proofs.Ythhigjfkekdmiaa.Pure
open Go.RowKit Go.Proofs.Ythhigjfkekdmiaa Go.Proofs.Ythhigjfkekdmiaa.M Go.Proofs.YthhigjfkekdmiaaW.PrintWords Go.Proofs.YthhigjfkekdmiaaW.PrintLast Go.Proofs.YthhigjfkekdmiaaW.PrintMore Go.Proofs.Ythhigjfkekdmiaa.B

def tr (s : ByteArray) : List UInt8 := (L s).take 200
theorem tr_len (s : ByteArray) : (tr s).length ≤ 200 := by unfold tr; rw [List.length_take]; omega
theorem mn200 (s : ByteArray) : ∃ q : Nat, mn (s.size : Int) 200 = (q : Int) ∧ q ≤ s.size ∧ q ≤ 200 ∧ (L s).take q = tr s := by
  unfold mn
  by_cases h : (200 : Int) < (s.size : Int)
  · exact ⟨200, by rw [if_pos h]; rfl, by omega, by omega, rfl⟩
  · refine ⟨s.size, by rw [if_neg h], by omega, by omega, ?_⟩
    unfold tr
    rw [List.take_of_length_le (by rw [L_len]; omega), List.take_of_length_le (by rw [L_len]; omega)]
theorem putF_tr (s : ByteArray) : putF (tr s) = (frm (tr s), 0) := by
  have := tr_len s
  unfold putF
  rw [if_neg (by omega)]
theorem frms_tr_len : ∀ l : List ByteArray, (frms (l.map tr)).length ≤ 220 * l.length
  | [] => by simp [frms]
  | s :: l => by
    have h := frms_tr_len l
    have h1 := tr_len s
    have h2 := frm_length (tr s)
    have h3 := vput_len (i64_nat (n := (tr s).length) (by omega))
    rw [List.map_cons, frms_cons, List.length_append, List.length_cons]
    omega
theorem tr_ok (l : List ByteArray) : ∀ x ∈ l.map tr, x.length ≤ 4096 := by
  intro x hx
  obtain ⟨s, _, rfl⟩ := List.mem_map.1 hx
  have := tr_len s
  omega
theorem rdOf_get (l : List ByteArray) (i : Nat) (h : i < l.length) : rdOf ByteArray.empty l (i : Int) = l[i] := by
  unfold rdOf
  simp [List.getD_eq_getElem?_getD, h]
theorem put_step (k : Nat) (hk : 10 ≤ k) (s : ByteArray) (q : Nat) (hq : q ≤ 200) (ht : (L s).take q = tr s) : frame_Put.f k (s.extract 0 q) = some (ofL (frm (tr s)), 0) := by
  have e : L (s.extract 0 q) = tr s := by rw [L_take_extract, ht]
  have := tr_len s
  rw [fput_f _ (by rw [← L_len, e]; omega) k hk, e, putF_tr]
theorem one_l (l : List ByteArray) (i : Nat) (hi : i < l.length) : ofL (frms ((l.take i).map tr)) ++ ofL (frm (tr l[i])) = ofL (frms ((l.take (i + 1)).map tr)) := by
  apply L_inj
  rw [L_append, L_ofL, L_ofL, L_ofL, List.take_succ_eq_append_getElem hi, List.map_append, frms_append]
  simp [frms]
theorem size_l (l : List ByteArray) (hl : l.length ≤ 10) (i : Nat) : (ofL (frms ((l.take i).map tr))).size ≤ 2200 := by
  rw [ofL_size]
  have := frms_tr_len (l.take i)
  have h : (l.take i).length ≤ 10 := by rw [List.length_take]; omega
  omega
theorem size_one (s : ByteArray) : (ofL (frm (tr s))).size ≤ 300 := by
  have h1 := tr_len s
  have h2 := frm_length (tr s)
  have h3 := vput_len (i64_nat (n := (tr s).length) (by omega))
  rw [ofL_size]
  omega
theorem empty_put (k : Nat) (hk : 10 ≤ k) : ∃ y : ByteArray, y.size = 5 ∧ frame_Put.f k (⟨#[]⟩ : ByteArray) = some (y, 0) := by
  refine ⟨ofL (frm []), ?_, ?_⟩
  · rw [ofL_size, frm_length]
    have : leb (zz ((([] : List UInt8).length : Nat) : Int)) = [UInt8.ofNat 0] := leb_one (n := 0) (by omega)
    rw [this]; rfl
  · rw [fput_f _ (by show (0 : Nat) ≤ _; omega) k hk]
    rfl
theorem rows_end (a b : List ByteArray) (ha : a.length ≤ 10) (hb : b.length ≤ 10) (k : Nat) (hk : 100000 ≤ k) :
    boomeranglaw3_FrameRows.l1 (k + 1) a b (ofL (frms (a.map tr))) (ofL (frms (b.map tr))) (b.length : Int) = some true := by
  have za := size_l a ha a.length
  have zb := size_l b hb b.length
  rw [List.take_length] at za zb
  have hL : L (ofL (frms (a.map tr)) ++ ofL (frms (b.map tr))) = frms ((a ++ b).map tr) := by rw [L_append, L_ofL, L_ofL, List.map_append, frms_append]
  have hs : (ofL (frms (a.map tr)) ++ ofL (frms (b.map tr))).size = (ofL (frms (a.map tr))).size + (ofL (frms (b.map tr))).size := ByteArray.size_append
  have fa := all_f (ofL (frms (a.map tr))) (by omega) k (by omega)
  have fb := all_f (ofL (frms (b.map tr))) (by omega) k (by omega)
  have fc := all_f (ofL (frms (a.map tr)) ++ ofL (frms (b.map tr))) (by omega) k (by omega)
  rw [hL] at fc
  rw [L_ofL] at fa fb
  have ra := all_frms (a.map tr) (tr_ok a) ((ofL (frms (a.map tr))).size + 1) (by rw [ofL_size]; omega)
  have rb := all_frms (b.map tr) (tr_ok b) ((ofL (frms (b.map tr))).size + 1) (by rw [ofL_size]; omega)
  have rc := all_frms ((a ++ b).map tr) (tr_ok (a ++ b)) ((ofL (frms (a.map tr)) ++ ofL (frms (b.map tr))).size + 1) (by rw [← hL, L_len]; omega)
  rw [ra.1, ra.2.1, ra.2.2] at fa
  rw [rb.1, rb.2.1, rb.2.2] at fb
  rw [rc.1, rc.2.1, rc.2.2] at fc
  have hcl : ((frms ((a ++ b).map tr)).length : Int) = ((frms (a.map tr)).length : Int) + ((frms (b.map tr)).length : Int) := by
    rw [List.map_append, frms_append, List.length_append]; omega
  obtain ⟨y, hy5, hy⟩ := empty_put k (by omega)
  have hw : wrap64 ((wrap64 ((wrap64 (0 + 0)) + 0)) + 0) = 0 := by
    have h0 : wrap64 (0 + 0) = 0 := wrap_id (by omega) (by omega)
    rw [h0, h0, h0]
  have la := frms_tr_len a
  have lb := frms_tr_len b
  have hwl : wrap64 (((frms (a.map tr)).length : Int) + ((frms (b.map tr)).length : Int)) = ((frms (a.map tr)).length : Int) + ((frms (b.map tr)).length : Int) := by rw [wrap_id (by omega) (by omega)]
  have hml : ∀ c : List ByteArray, ((c.map tr).map ofL).length = c.length := fun c => by rw [List.length_map, List.length_map]
  have hp : (ofL (frms (a.map tr))).size + (ofL (frms (b.map tr))).size ≤ 9223372036854775807 := by clear hwl hw; omega
  simp only [boomeranglaw3_FrameRows.l1]
  rw [if_neg (by clear hwl hw; omega), fa, Option.bind_some, fb, Option.bind_some, if_pos hp, fc, Option.bind_some, hy, Option.bind_some]
  unfold boomeranglaw1_Err.f
  dsimp only
  rw [Option.bind_some, Option.bind_some, Option.bind_some, Option.bind_some, hw, if_pos rfl, hy5, if_pos (by rfl), hwl, hcl, if_pos rfl, hml a, if_pos rfl, hml b, if_pos rfl, Option.bind_some, if_pos (show ([] : List ByteArray).length + a.length < _ by show 0 + a.length < _; clear hwl hw; omega), Option.bind_some]
  have hap : ([] : List ByteArray) ++ (a.map tr).map ofL ++ (b.map tr).map ofL = ((a ++ b).map tr).map ofL := by rw [List.nil_append, List.map_append, List.map_append]
  have hlen : (([] : List ByteArray) ++ (a.map tr).map ofL).length + b.length < 8796093022208 := by rw [List.nil_append, hml a]; clear hwl hw; omega
  rw [if_pos hlen, hap, same_f _ (by rw [hml]; rw [List.length_append]; clear hwl hw; omega) k (by rw [hml]; rw [List.length_append]; clear hwl hw; omega), Option.bind_some, if_pos rfl, awake3 k (by clear hwl hw; omega)]
  rfl
theorem rows_l1 (a b : List ByteArray) (ha : a.length ≤ 10) (hb : b.length ≤ 10) (k : Nat) (hk : 100000 ≤ k) : ∀ (d i : Nat), i + d = b.length →
    boomeranglaw3_FrameRows.l1 (k + d + 1) a b (ofL (frms (a.map tr))) (ofL (frms ((b.take i).map tr))) (i : Int) = some true
  | 0, i, hd => by
    obtain rfl : i = b.length := by omega
    rw [List.take_length]
    exact rows_end a b ha hb k hk
  | d + 1, i, hd => by
    have hi : i < b.length := by omega
    obtain ⟨q, hq, hq1, hq2, hq3⟩ := mn200 b[i]
    have hz := size_l b hb i
    have hz1 := size_one b[i]
    have g1 : (i : Int) < (b.length : Int) := by omega
    have g2 : (0 : Int) ≤ (i : Int) := by omega
    have g3 : (0 : Int) ≤ (q : Int) := by omega
    have g4 : (q : Int) ≤ (b[i].size : Int) := by omega
    have g5 : (ofL (frms ((b.take i).map tr))).size + (ofL (frm (tr b[i]))).size ≤ 9223372036854775807 := by omega
    show boomeranglaw3_FrameRows.l1 ((k + d + 1) + 1) _ _ _ _ _ = _
    simp only [boomeranglaw3_FrameRows.l1]
    rw [if_pos g1, if_pos g2, rdOf_get b i hi, hq, if_pos g3, if_pos g4, Int.toNat_natCast, put_step (k + d + 1) (by omega) b[i] q hq2 hq3, Option.bind_some]
    dsimp only
    unfold boomeranglaw1_Err.f
    rw [if_pos g5, Option.bind_some, if_pos rfl, one_l b i hi, w_succ i (by omega)]
    exact rows_l1 a b ha hb k hk d (i + 1) (by omega)
theorem rows_l0 (a b : List ByteArray) (ha : a.length ≤ 10) (hb : b.length ≤ 10) (k : Nat) (hk : 100000 ≤ k) : ∀ (d i : Nat), i + d = a.length →
    boomeranglaw3_FrameRows.l0 (k + b.length + 1 + d + 1) a b (ofL (frms ((a.take i).map tr))) (⟨#[]⟩ : ByteArray) (i : Int) = some true
  | 0, i, hd => by
    obtain rfl : i = a.length := by omega
    have h := rows_l1 a b ha hb k hk b.length 0 (by omega)
    rw [show ((0 : Nat) : Int) = 0 from rfl] at h
    have g : ¬ (a.length : Int) < (a.length : Int) := by omega
    show boomeranglaw3_FrameRows.l0 ((k + b.length + 1) + 1) _ _ _ _ _ = _
    simp only [boomeranglaw3_FrameRows.l0]
    rw [if_neg g, List.take_length]
    exact h
  | d + 1, i, hd => by
    have hi : i < a.length := by omega
    obtain ⟨q, hq, hq1, hq2, hq3⟩ := mn200 a[i]
    have hz := size_l a ha i
    have hz1 := size_one a[i]
    have g1 : (i : Int) < (a.length : Int) := by omega
    have g2 : (0 : Int) ≤ (i : Int) := by omega
    have g3 : (0 : Int) ≤ (q : Int) := by omega
    have g4 : (q : Int) ≤ (a[i].size : Int) := by omega
    have g5 : (ofL (frms ((a.take i).map tr))).size + (ofL (frm (tr a[i]))).size ≤ 9223372036854775807 := by omega
    show boomeranglaw3_FrameRows.l0 ((k + b.length + 1 + d + 1) + 1) _ _ _ _ _ = _
    simp only [boomeranglaw3_FrameRows.l0]
    rw [if_pos g1, if_pos g2, rdOf_get a i hi, hq, if_pos g3, if_pos g4, Int.toNat_natCast, put_step (k + b.length + 1 + d + 1) (by omega) a[i] q hq2 hq3, Option.bind_some]
    dsimp only
    unfold boomeranglaw1_Err.f
    rw [if_pos g5, Option.bind_some, if_pos rfl, one_l a i hi, w_succ i (by omega)]
    exact rows_l0 a b ha hb k hk d (i + 1) (by omega)
theorem rows_t (a b : List ByteArray) (k : Nat) (hk : 100 ≤ k) : boomeranglaw3_FrameRows.j0 (k + 1) a b true = some true := by
  simp only [boomeranglaw3_FrameRows.j0]
  rw [if_pos trivial, awake3 k hk]
  rfl
theorem rows_j (a b : List ByteArray) (ha : a.length ≤ 10) (hb : b.length ≤ 10) (k : Nat) (hk : 100000 ≤ k) : boomeranglaw3_FrameRows.j0 (k + b.length + 1 + a.length + 1 + 1) a b false = some true := by
  have h := rows_l0 a b ha hb k hk a.length 0 (by omega)
  rw [show ((0 : Nat) : Int) = 0 from rfl] at h
  simp only [boomeranglaw3_FrameRows.j0]
  rw [if_neg (by decide)]
  exact h

theorem FrameRows (a b : List ByteArray) : ∃ k, boomeranglaw3_FrameRows.f k a b = some true := by
  obtain ⟨k, hk⟩ : ∃ k : Nat, k = 100000 := ⟨_, rfl⟩
  refine ⟨k + b.length + 1 + a.length + 1 + 1, ?_⟩
  unfold boomeranglaw3_FrameRows.f
  by_cases h1 : (a.length : Int) > 10
  · rw [if_pos h1]; exact rows_t a b _ (by omega)
  · rw [if_neg h1]
    by_cases h2 : (b.length : Int) > 10
    · rw [decide_eq_true h2]; exact rows_t a b _ (by omega)
    · rw [decide_eq_false h2]; exact rows_j a b (by omega) (by omega) k (by omega)

end Go.Proofs.Ythhigjfkekdmiaa.Pure
