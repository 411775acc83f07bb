/- For every number: as much as may be is a record, and no more; what says that it is longer is none. Condition: none. -/
import Derived.Test.YthhigjfkekdmiaaRoundB
import Derived.Test.YthhigjfkekdmiaaM21
set_option linter.unusedSimpArgs false
set_option linter.unusedVariables false
namespace Go.Proofs.Ythhigjfkekdmiaa.Pure
open Go.RowKit Go.Proofs.Ythhigjfkekdmiaa Go.Proofs.Ythhigjfkekdmiaa.M Go.Proofs.YthhigjfkekdmiaaW.PrintWords Go.Proofs.YthhigjfkekdmiaaW.PrintLast Go.Proofs.YthhigjfkekdmiaaW.PrintMore Go.Proofs.Ythhigjfkekdmiaa.B

theorem lim_good (x : List UInt8) (hx : x.length ≤ 4096) (d : Nat) (hd : (frm x).length < d) : (allS (frm x) d 0).l = [x] ∧ (allS (frm x) d 0).e = 0 := by
  have h := all_frms [x] (by simpa using hx) d (by simpa [frms] using hd)
  have e : frms [x] = frm x := by simp [frms]
  rw [e] at h
  exact ⟨h.1, h.2.2⟩
/-- A number that may not be a record's length ends it. -/
theorem lim_bad (n : Int) (l : List UInt8) (hl : 0 < l.length) (hr : (readS l).2.2 = 0) (hn : (readS l).1 < 0 ∨ (readS l).1 > 4096) (d : Nat) : (allS l (d + 1) 0).l = [] ∧ (allS l (d + 1) 0).e = 4 := by
  have hg : (getS l 0).2.2 = 0 ∧ (getS l 0).1 = (readS l).1 := by
    unfold getS fin
    rw [List.drop_zero, if_pos hr]
    exact ⟨rfl, rfl⟩
  have hnx : nextS l 0 = ([], 4, 0) := by
    unfold nextS
    rw [if_pos hg.1]
    unfold afterS
    rw [hg.2, if_pos hn]
  simp only [allS]
  rw [if_neg (by omega), hnx, if_neg (by decide)]
  exact ⟨rfl, rfl⟩
theorem lim_neg (d : Nat) : (allS (leb (zz (-1)) ++ [97, 98, 99, 100, 101, 102, 103, 104]) (d + 1) 0).e = 4 := by
  have hl : leb (zz (-1)) = [1] := by rw [show zz (-1) = 1 from rfl, leb_small (by omega)]; rfl
  rw [hl]
  have hr : readS ([1] ++ [97, 98, 99, 100, 101, 102, 103, 104]) = (-1, 1, 0) := by
    unfold readS
    simp only [scan]
    have hg : (([1] ++ [97, 98, 99, 100, 101, 102, 103, 104] : List UInt8)).getD 0 0 = 1 := rfl
    have h1 : orOf 0 (1 : UInt8) 0 = 1 := orOf_zero 1
    have h2 : unz 1 = -1 := by decide
    rw [if_neg (by simp), hg, if_neg (by decide), h1, h2, hl, if_pos (by rfl)]
    rfl
  exact (lim_bad 0 _ (by simp) (by rw [hr]) (.inl (by rw [hr]; decide)) d).2
theorem zeros_L (n : Nat) : L (strOfNums (List.replicate n 0)) = List.replicate n 0 := by rw [L_nums, List.map_replicate]; rfl
theorem lim_main (n : Nat) (h0 : 4093 ≤ n) (h1 : n ≤ 4099) (a0 : Int) (ha : wrap64 (4093 + (Int.tmod (wrap64 a0) 7)) = (n : Int)) (k : Nat) (hk : 200000 ≤ k) : boomeranglaw3_FrameLimits.f k a0 = some true := by
  have hz := zeros_L n
  have hzs : (strOfNums (List.replicate n 0)).size = n := by rw [strOfNums_size, List.length_replicate]
  have hzl : (List.replicate n (0 : UInt8)).length = n := List.length_replicate
  have hvl := vput_len (i64_nat (n := n) (by omega))
  have hc : (Crc.put (List.replicate n (0 : UInt8))).length = n + 4 := by rw [cput_len, hzl]
  have hv1 := vput_len (n := -1) ⟨by omega, by omega⟩
  have hL1 : L (ofL (leb (zz (n : Int))) ++ ofL (Crc.put (List.replicate n 0))) = frm (List.replicate n 0) := by
    rw [L_append, L_ofL, L_ofL]; unfold frm; rw [hzl]
  have hs1 : (ofL (leb (zz (n : Int))) ++ ofL (Crc.put (List.replicate n 0))).size ≤ 5000 := by rw [ByteArray.size_append, ofL_size, ofL_size, hc]; omega
  have hL2 : L (ofL (leb (zz (-1))) ++ (⟨#[97, 98, 99, 100, 101, 102, 103, 104]⟩ : ByteArray)) = leb (zz (-1)) ++ [97, 98, 99, 100, 101, 102, 103, 104] := by rw [L_append, L_ofL]; rfl
  have hs8 : (⟨#[97, 98, 99, 100, 101, 102, 103, 104]⟩ : ByteArray).size = 8 := rfl
  have hs2 : (ofL (leb (zz (-1))) ++ (⟨#[97, 98, 99, 100, 101, 102, 103, 104]⟩ : ByteArray)).size ≤ 5000 := by rw [ByteArray.size_append, ofL_size, hs8]; omega
  have hneg := lim_neg (ofL (leb (zz (-1))) ++ (⟨#[97, 98, 99, 100, 101, 102, 103, 104]⟩ : ByteArray)).size
  have hn0 : (0 : Int) ≤ (n : Int) := by omega
  have hn1 : ((n : Nat) : Int).toNat ≤ 281474976710656 := by omega
  have hn2 : ((n : Nat) : Int).toNat = n := by omega
  have hp1 : (ofL (leb (zz (n : Int)))).size + (ofL (Crc.put (List.replicate n 0))).size ≤ 9223372036854775807 := by rw [ofL_size, ofL_size, hc]; omega
  have hp2 : (ofL (leb (zz (-1)))).size + 8 ≤ 9223372036854775807 := by rw [ofL_size]; omega
  have hfl := frm_length (List.replicate n (0 : UInt8))
  unfold boomeranglaw3_FrameLimits.f
  rw [ha, if_pos hn0, if_pos hn1, hn2, fput_f _ (by rw [hzs]; omega) k (by omega), Option.bind_some, ref_vput_f (i64_nat (by omega)) k (by omega), Option.bind_some, ref_put_f _ (by rw [hzs]; omega) k (by rw [hzs]; omega), Option.bind_some, hz, if_pos hp1,
    all_f _ (by omega) k (by omega), Option.bind_some, ref_vput_f ⟨by omega, by omega⟩ k (by omega), Option.bind_some, if_pos hp2, all_f _ (by omega) k (by omega), Option.bind_some, hL1, hL2]
  generalize (ofL (leb (zz (-1))) ++ (⟨#[97, 98, 99, 100, 101, 102, 103, 104]⟩ : ByteArray)).size = q2 at *
  generalize hq1 : (ofL (leb (zz (n : Int))) ++ ofL (Crc.put (List.replicate n 0))).size = q1 at *
  have hq1e : q1 = (frm (List.replicate n (0 : UInt8))).length := by rw [← hq1, ← L_len, hL1]
  unfold boomeranglaw1_Err.f
  rw [Option.bind_some]
  by_cases hg : n ≤ 4096
  · have hgood := lim_good (List.replicate n 0) (by omega) (q1 + 1) (by omega)
    have hgi : (n : Int) ≤ 4096 := by omega
    have hput : putF (List.replicate n 0) = (frm (List.replicate n 0), 0) := by unfold putF; rw [if_neg (by omega)]
    have hl1 : (((allS (frm (List.replicate n 0)) (q1 + 1) 0).l.map ofL).length : Int) = 1 := by rw [hgood.1]; rfl
    rw [hput, decide_eq_true hgi, hneg, hgood.2]
    dsimp only
    rw [if_pos (by rfl), if_pos hgi, Option.bind_some, if_pos (by rfl), hl1, if_pos (by rfl), Option.bind_some, if_pos rfl, awake3 k (by omega)]
    rfl
  · have hput : putF (List.replicate n 0) = ([], 6) := by unfold putF; rw [if_pos (by omega)]
    have hgi : ¬ (n : Int) ≤ 4096 := by omega
    have hrd : readS (frm (List.replicate n (0 : UInt8))) = ((n : Int), ((leb (zz (n : Int))).length : Int), 0) := by
      unfold frm
      rw [hzl, read_put (by omega)]
    have hbad := lim_bad 0 (frm (List.replicate n (0 : UInt8))) (by omega) (by rw [hrd]) (.inr (by rw [hrd]; dsimp only; omega)) q1
    have hl0 : (((allS (frm (List.replicate n 0)) (q1 + 1) 0).l.map ofL).length : Int) = 0 := by rw [hbad.1]; rfl
    rw [hput, decide_eq_false hgi, hneg, hbad.2]
    dsimp only
    rw [if_pos (by rfl), if_neg hgi, Option.bind_some, if_pos rfl, if_pos (by rw [L_toList]; rfl), Option.bind_some, if_pos (by rfl), hl0, if_pos (by rfl), Option.bind_some, if_pos rfl, Option.bind_some, if_pos rfl, awake3 k (by omega)]
    rfl
theorem u8_wf {x : Int} (h : (Lit.int .u8 x).wf = true) : 0 ≤ x ∧ x < 256 := by
  have h1 : IntKind.u8.min ≤ x ∧ x ≤ IntKind.u8.max := by simpa [Lit.wf] using h
  have e1 : IntKind.u8.min = 0 := by decide
  have e2 : IntKind.u8.max = 255 := by decide
  rw [e1, e2] at h1
  omega
theorem lim_num (a0 : Int) (h : 0 ≤ a0 ∧ a0 < 256) : wrap64 (4093 + (Int.tmod (wrap64 a0) 7)) = ((4093 + a0.toNat % 7 : Nat) : Int) := by
  rw [wrap_id (x := a0) (by omega) (by omega), Int.tmod_eq_emod_of_nonneg (by omega), wrap_id (by omega) (by omega)]
  omega

theorem FrameLimits : boomeranglaw3_FrameLimits.Pure := by
  intro a0 h
  have hr := u8_wf h
  exact ⟨200000, lim_main (4093 + a0.toNat % 7) (by omega) (by omega) a0 (lim_num a0 hr) 200000 (by omega)⟩

end Go.Proofs.Ythhigjfkekdmiaa.Pure
