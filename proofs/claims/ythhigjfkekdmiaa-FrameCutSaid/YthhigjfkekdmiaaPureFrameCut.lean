/- For all lists of texts and places: of records that are cut anywhere just those that are whole are told, and that more is needed, or nothing is wrong; turned in one of them those ahead are told, as they were. Condition: the numbers are of their kinds. -/
import Derived.Test.YthhigjfkekdmiaaRoundB
import Derived.Test.YthhigjfkekdmiaaFlip
import Derived.Test.YthhigjfkekdmiaaM20
set_option linter.unusedSimpArgs false
set_option linter.unusedVariables false
namespace Go.Proofs.Ythhigjfkekdmiaa.Pure
open Go.RowKit Go.Proofs.Ythhigjfkekdmiaa Go.Proofs.Ythhigjfkekdmiaa.M Go.Proofs.YthhigjfkekdmiaaW.PrintWords Go.Proofs.YthhigjfkekdmiaaW.PrintLast Go.Proofs.YthhigjfkekdmiaaW.PrintMore Go.Proofs.Ythhigjfkekdmiaa.B

/-- How many bytes the first j records take. -/
def En (xs : List (List UInt8)) (j : Nat) : Nat := (frms (xs.take j)).length
def ends (xs : List (List UInt8)) (i : Nat) : List Int := (List.range i).map fun j => (En xs (j + 1) : Int)
theorem ends_len (xs : List (List UInt8)) (i : Nat) : (ends xs i).length = i := by simp [ends]
theorem ends_rd (xs : List (List UInt8)) (i j : Nat) (h : j < i) : rd (ends xs i) (j : Int) = (En xs (j + 1) : Int) := by
  unfold rd ends
  simp [h]
theorem ends_succ (xs : List (List UInt8)) (i : Nat) : ends xs (i + 1) = ends xs i ++ [(En xs (i + 1) : Int)] := by simp [ends, List.range_succ]
theorem En_succ (xs : List (List UInt8)) (i : Nat) (h : i < xs.length) : En xs (i + 1) = En xs i + (frm xs[i]).length := by
  unfold En
  rw [List.take_succ_eq_append_getElem h, frms_append, List.length_append]
  simp [frms]
theorem En_zero (xs : List (List UInt8)) : En xs 0 = 0 := by simp [En, frms]
theorem En_all (xs : List (List UInt8)) : En xs xs.length = (frms xs).length := by unfold En; rw [List.take_length]
theorem frms_len (xs : List (List UInt8)) : (∀ x ∈ xs, x.length ≤ 300) → (frms xs).length ≤ 314 * xs.length := by
  induction xs with
  | nil => intro _; simp [frms]
  | cons x xs ih =>
    intro h
    have h1 := ih (fun y hy => h y (by simp [hy]))
    have h2 := h x (by simp)
    have h3 := frm_length x
    have h4 := vput_len (i64_nat (n := x.length) (by omega))
    rw [frms_cons, List.length_append, List.length_cons]
    omega
theorem split_at (xs : List (List UInt8)) (w : Nat) : frms xs = frms (xs.take w) ++ frms (xs.drop w) := by rw [← frms_append, List.take_append_drop]
/-- What is told of a beginning. -/
theorem cut_all (xs : List (List UInt8)) (hx : ∀ x ∈ xs, x.length ≤ 300) (k w : Nat) (hw : w ≤ xs.length) (h1 : En xs w ≤ k) (h2 : k ≤ (frms xs).length) (h3 : w < xs.length → k < En xs (w + 1)) (d : Nat) (hd : k < d) :
    (allS ((frms xs).take k) d 0).l = xs.take w ∧ (allS ((frms xs).take k) d 0).used = (En xs w : Int) ∧ (allS ((frms xs).take k) d 0).e = if En xs w = k then 0 else 3 := by
  have hEn : En xs w = (frms (xs.take w)).length := rfl
  obtain ⟨rest, hrest, hsp⟩ : ∃ rest, (frms xs).take k = frms (xs.take w) ++ rest ∧ (rest = [] ∧ En xs w = k ∨ ∃ hw' : w < xs.length, ∃ j, j < (frm xs[w]).length ∧ 0 < j ∧ rest = (frm xs[w]).take j ∧ En xs w < k) := by
    refine ⟨(frms (xs.drop w)).take (k - En xs w), ?_, ?_⟩
    · conv => lhs; rw [split_at xs w]
      rw [List.take_append, List.take_of_length_le (by omega)]
      rfl
    · by_cases hk : En xs w = k
      · left
        refine ⟨?_, hk⟩
        rw [hk, Nat.sub_self, List.take_zero]
      · right
        have hlt : w < xs.length := by
          rcases Nat.lt_or_ge w xs.length with h | h
          · exact h
          · exfalso
            have : w = xs.length := by omega
            rw [this, En_all] at h1 hk
            omega
        have hs := En_succ xs w hlt
        have hk3 := h3 hlt
        refine ⟨hlt, k - En xs w, by omega, by omega, ?_, by omega⟩
        rw [List.drop_eq_getElem_cons hlt, frms_cons, List.take_append_of_le_length (by omega)]
  have hlen : ((frms xs).take k).length = k := by rw [List.length_take]; omega
  have hxw : ∀ x ∈ xs.take w, x.length ≤ 4096 := fun x hxm => by
    have := hx x (List.mem_of_mem_take hxm)
    omega
  obtain ⟨r, d', a1, a2, a3, a4, a5⟩ := all_put (xs.take w) [] rest d hxw (by rw [List.nil_append, ← hrest, hlen]; simpa using hd)
  simp only [List.nil_append, List.length_nil, Nat.zero_add] at a1 a2 a3 a4 a5
  rw [← hrest] at a1 a2 a3 a4 a5
  rw [hlen] at a1
  rw [a3, a4, a5]
  obtain ⟨d', rfl⟩ : ∃ m, d' = m + 1 := ⟨d' - 1, by omega⟩
  simp only [allS] at a2
  rw [hlen] at a2
  rcases hsp with ⟨hr, hk⟩ | ⟨hw', j, hj, hj0, hr, hk⟩
  · rw [if_pos (by omega)] at a2
    subst a2
    rw [if_pos hk]
    exact ⟨by simp, rfl, rfl⟩
  · have hn := next_cut (frms (xs.take w)) xs[w] (by have := hx xs[w] (List.getElem_mem hw'); omega) j hj
    rw [← hr, ← hrest] at hn
    rw [if_neg (by omega), hn, if_neg (by decide)] at a2
    subst a2
    rw [if_neg (by omega)]
    exact ⟨by simp, rfl, rfl⟩
/-- What stands ahead is told, whatever comes behind. -/
theorem ahead_all (xs : List (List UInt8)) (hx : ∀ x ∈ xs, x.length ≤ 300) (v : Nat) (t rest : List UInt8) (ht : t = frms (xs.take v) ++ rest) (d : Nat) (hd : t.length < d) : ∃ m, (allS t d 0).l = xs.take v ++ m := by
  have hxw : ∀ x ∈ xs.take v, x.length ≤ 4096 := fun x hxm => by
    have := hx x (List.mem_of_mem_take hxm)
    omega
  obtain ⟨r, d', a1, a2, a3, a4, a5⟩ := all_put (xs.take v) [] rest d hxw (by rw [List.nil_append, ← ht]; simpa using hd)
  simp only [List.nil_append, List.length_nil, Nat.zero_add] at a3
  rw [← ht] at a3
  exact ⟨r.l, a3⟩
theorem allS_len (l : List UInt8) : ∀ (d at_ : Nat), l.length < at_ + d → at_ ≤ l.length → (allS l d at_).l.length ≤ l.length - at_
  | 0, at_, h1, h2 => absurd h1 (by omega)
  | d + 1, at_, h1, h2 => by
    have hok := nextS_ok l at_ h2
    simp only [allS]
    by_cases h : l.length ≤ at_
    · rw [if_pos h]; simp
    · rw [if_neg h]
      generalize nextS l at_ = y at *
      by_cases he : y.2.1 = 0
      · obtain ⟨o1, o2⟩ := hok he
        rw [if_pos he]
        have ih := allS_len l d y.2.2.toNat (by omega) (by omega)
        dsimp only
        rw [List.length_cons]
        omega
      · rw [if_neg he]; simp
theorem texts_back (l : List ByteArray) : (l.map L).map ofL = l := by
  induction l with
  | nil => rfl
  | cons s l ih => simp only [List.map_cons]; rw [ih, ofL_L]
theorem take_back (l : List ByteArray) (w : Nat) : ((l.map L).take w).map ofL = l.take w := by
  rw [← List.map_take, texts_back]

/-! the last loop: how many stand ahead of the byte that is turned -/
theorem cut_l2_end (l : List ByteArray) (hx : ∀ x ∈ l.map L, x.length ≤ 300) (hl : l.length ≤ 12) (by_ : Int) (x21 : List Int) (j v : Nat) (hv : v ≤ l.length) (rest : List UInt8) (ht : L (strOfNums x21) = frms ((l.map L).take v) ++ rest) (hz : by_ = 0 → L (strOfNums x21) = frms (l.map L)) (hs : x21.length ≤ 10000) (k : Nat) (hk : 100000 ≤ k) :
    boomeranglaw3_FrameCut.l2 (k + 1) l by_ (ends (l.map L) l.length) x21 (j : Int) (v : Int) (l.length : Int) = some true := by
  have hss : (strOfNums x21).size = x21.length := strOfNums_size x21
  obtain ⟨m, hm⟩ := ahead_all (l.map L) hx v (L (strOfNums x21)) rest ht ((strOfNums x21).size + 1) (by rw [L_len]; omega)
  have hlen := allS_len (L (strOfNums x21)) ((strOfNums x21).size + 1) 0 (by rw [L_len]; omega) (by omega)
  have he0 : by_ = 0 → (allS (L (strOfNums x21)) ((strOfNums x21).size + 1) 0).e = 0 := fun hb => by
    have hfr := hz hb
    have h2 := all_frms (l.map L) (fun x hxm => by have := hx x hxm; omega) ((strOfNums x21).size + 1) (by rw [← hfr, L_len]; omega)
    rw [hfr]; exact h2.2.2
  have ge : ¬ (l.length : Int) < ((ends (l.map L) l.length).length : Int) := by rw [ends_len]; omega
  have hmap : ((allS (L (strOfNums x21)) ((strOfNums x21).size + 1) 0).l.map ofL).take v = l.take v := by
    rw [hm, List.map_append, take_back, List.take_append_of_le_length (by rw [List.length_take]; omega), List.take_take, Nat.min_self]
  have hml : v ≤ ((allS (L (strOfNums x21)) ((strOfNums x21).size + 1) 0).l.map ofL).length := by
    rw [hm, List.map_append, List.length_append, List.length_map, List.length_take, List.length_map]; omega
  simp only [boomeranglaw3_FrameCut.l2]
  rw [if_neg ge, all_f _ (by omega) k (by omega), Option.bind_some]
  generalize allS (L (strOfNums x21)) ((strOfNums x21).size + 1) 0 = r at *
  dsimp only
  have g1 : ((r.l.map ofL).length : Int) ≥ (v : Int) := by omega
  have g2 : (0 : Int) ≤ (v : Int) := by omega
  have g3 : (v : Int) ≤ ((r.l.map ofL).length : Int) := by omega
  have g4 : (v : Int) ≤ (l.length : Int) := by omega
  rw [if_pos g1, if_pos g2, if_pos g3, if_pos g4, Int.toNat_natCast, hmap, same_f _ (by rw [List.length_take]; omega) k (by rw [List.length_take]; omega), Option.bind_some, if_pos rfl]
  by_cases hb : by_ = 0
  · rw [if_pos hb]
    unfold boomeranglaw1_Err.f
    rw [he0 hb, Option.bind_some, if_pos rfl, awake3 k (by omega)]
    rfl
  · rw [if_neg hb, awake3 k (by omega)]
    rfl
theorem cut_l2 (l : List ByteArray) (hx : ∀ x ∈ l.map L, x.length ≤ 300) (hl : l.length ≤ 12) (by_ : Int) (x21 : List Int) (j : Nat) (hpre : (L (strOfNums x21)).take j = (frms (l.map L)).take j) (hj : j ≤ (frms (l.map L)).length) (hz : by_ = 0 → L (strOfNums x21) = frms (l.map L)) (hs : x21.length ≤ 10000) (k : Nat) (hk : 100000 ≤ k) :
    ∀ (d i v : Nat), i + d = l.length → v ≤ i → En (l.map L) v ≤ j →
    boomeranglaw3_FrameCut.l2 (k + d + 1) l by_ (ends (l.map L) l.length) x21 (j : Int) (v : Int) (i : Int) = some true
  | 0, i, v, hd, hv, hE => by
    obtain rfl : i = l.length := by omega
    have ht : L (strOfNums x21) = frms ((l.map L).take v) ++ (L (strOfNums x21)).drop (En (l.map L) v) := by
      have e1 : (L (strOfNums x21)).take (En (l.map L) v) = frms ((l.map L).take v) := by
        have e2 : ((L (strOfNums x21)).take j).take (En (l.map L) v) = ((frms (l.map L)).take j).take (En (l.map L) v) := by rw [hpre]
        rw [List.take_take, List.take_take, Nat.min_eq_left hE] at e2
        rw [e2, split_at (l.map L) v]
        have e3 : En (l.map L) v = (frms ((l.map L).take v)).length := rfl
        rw [e3, List.take_left]
      rw [← e1, List.take_append_drop]
    exact cut_l2_end l hx hl by_ x21 j v hv _ ht hz hs k hk
  | d + 1, i, v, hd, hv, hE => by
    have g1 : (i : Int) < ((ends (l.map L) l.length).length : Int) := by rw [ends_len]; omega
    have g2 : (0 : Int) ≤ (i : Int) := by omega
    show boomeranglaw3_FrameCut.l2 ((k + d + 1) + 1) _ _ _ _ _ _ _ = _
    simp only [boomeranglaw3_FrameCut.l2]
    rw [if_pos g1, if_pos g2, ends_rd _ _ i (by omega), w_succ i (by omega)]
    by_cases hle : En (l.map L) (i + 1) ≤ j
    · rw [if_pos (by omega)]
      exact cut_l2 l hx hl by_ x21 j hpre hj hz hs k hk d (i + 1) (i + 1) (by omega) (by omega) hle
    · rw [if_neg (by omega)]
      exact cut_l2 l hx hl by_ x21 j hpre hj hz hs k hk d (i + 1) v (by omega) (by omega) hE
theorem cut_j2 (l : List ByteArray) (hx : ∀ x ∈ l.map L, x.length ≤ 300) (hl : l.length ≤ 12) (at_ b : Nat) (hat : at_ < 65536) (hb : b < 256) (k : Nat) (hk : 100000 ≤ k) :
    boomeranglaw3_FrameCut.j2 (k + l.length + 1 + 1) l (at_ : Int) (b : Int) (ofL (frms (l.map L))) (ends (l.map L) l.length) false = some true := by
  have hfl := frms_len (l.map L) hx
  rw [List.length_map] at hfl
  have hsz : (ofL (frms (l.map L))).size = (frms (l.map L)).length := ofL_size _
  simp only [boomeranglaw3_FrameCut.j2]
  rw [if_neg (by decide)]
  by_cases h0 : (frms (l.map L)).length = 0
  · rw [if_pos (by omega), awake3 _ (by omega)]
    rfl
  · have hbl : (bytesOf (ofL (frms (l.map L)))).length = (frms (l.map L)).length := by rw [bytesOf_length, hsz]
    have ea : wrap64 (at_ : Int) = (at_ : Int) := wrap_id (by omega) (by omega)
    have hjl : at_ % (frms (l.map L)).length < (frms (l.map L)).length := Nat.mod_lt _ (by omega)
    have em : Int.tmod (at_ : Int) ((frms (l.map L)).length : Int) = ((at_ % (frms (l.map L)).length : Nat) : Int) := by
      rw [Int.tmod_eq_emod_of_nonneg (by omega)]; exact (Int.natCast_emod _ _).symm
    rw [if_neg (by omega), if_pos (by omega), Option.bind_some, hbl, if_neg (by omega), ea, em]
    generalize at_ % (frms (l.map L)).length = j at *
    have hrd : rd (bytesOf (ofL (frms (l.map L)))) (j : Int) = (((frms (l.map L)).getD j 0).toNat : Int) := by
      unfold rd
      rw [Int.toNat_natCast, bytesOf_getD _ _ (by omega), L_ofL]
    have hxr : Go.bits .xor .u8 (((frms (l.map L)).getD j 0).toNat : Int) (b : Int) = ((((frms (l.map L)).getD j 0).toNat ^^^ b : Nat) : Int) := bits_xor_nat .u8 _ _ (.inl rfl) (UInt8.toNat_lt _) hb
    rw [if_pos (by omega), if_pos (by omega), Int.toNat_natCast, hrd, hxr]
    have hL : L (strOfNums ((bytesOf (ofL (frms (l.map L)))).set j ((((frms (l.map L)).getD j 0).toNat ^^^ b : Nat) : Int))) = (frms (l.map L)).set j (UInt8.ofNat (((frms (l.map L)).getD j 0).toNat ^^^ b)) := by
      rw [L_nums, List.map_set]
      congr 1
      unfold bytesOf
      rw [List.map_map]
      conv => rhs; rw [← List.map_id (frms (l.map L))]
      show List.map _ (frms (l.map L)) = _
      congr 1
      funext c
      simp
    have hgo := cut_l2 l hx hl (b : Int) ((bytesOf (ofL (frms (l.map L)))).set j ((((frms (l.map L)).getD j 0).toNat ^^^ b : Nat) : Int)) j (by rw [hL, List.take_set_of_le (Nat.le_refl _)]) (by omega)
      (fun hb0 => by
        have hb1 : b = 0 := by omega
        subst hb1
        rw [hL, Nat.xor_zero, UInt8.ofNat_toNat]
        rw [List.getD_eq_getElem?_getD, List.getElem?_eq_getElem hjl, Option.getD_some, List.set_getElem_self]) (by rw [List.length_set, hbl]; omega) k hk l.length 0 0 (by omega) (by omega) (by rw [En_zero]; omega)
    rw [show ((0 : Nat) : Int) = 0 from rfl] at hgo
    exact hgo
theorem cut_l1_end (l : List ByteArray) (hx : ∀ x ∈ l.map L, x.length ≤ 300) (hl : l.length ≤ 12) (at_ b : Nat) (hat : at_ < 65536) (hb : b < 256) (k : Nat) (hk : 100000 ≤ k) (c w : Nat) (hc : c ≤ (frms (l.map L)).length) (hw : w ≤ l.length) (h1 : En (l.map L) w ≤ c) (h3 : ∀ q, w < q → q ≤ l.length → c < En (l.map L) q) :
    boomeranglaw3_FrameCut.l1 (k + l.length + 1 + 1 + 1) l (at_ : Int) (b : Int) (ofL (frms (l.map L))) (ends (l.map L) l.length) (c : Int) (w : Int) (En (l.map L) w : Int) (l.length : Int) = some true := by
  have hfl := frms_len (l.map L) hx
  rw [List.length_map] at hfl
  have hsz : (ofL (frms (l.map L))).size = (frms (l.map L)).length := ofL_size _
  have hL : L ((ofL (frms (l.map L))).extract 0 c) = (frms (l.map L)).take c := by rw [L_take_extract, L_ofL]
  have hzs : ((ofL (frms (l.map L))).extract 0 c).size = c := by rw [← L_len, hL, List.length_take]; omega
  have hca := cut_all (l.map L) hx c w (by rw [List.length_map]; exact hw) h1 hc (fun hw' => h3 (w + 1) (by omega) (by rw [List.length_map] at hw'; omega)) (c + 1) (by omega)
  have ge : ¬ (l.length : Int) < ((ends (l.map L) l.length).length : Int) := by rw [ends_len]; omega
  have hj2 := cut_j2 l hx hl at_ b hat hb k hk
  have g1 : (0 : Int) ≤ (c : Int) := by omega
  have g2 : (c : Int) ≤ ((ofL (frms (l.map L))).size : Int) := by omega
  have g3 : (0 : Int) ≤ (w : Int) := by omega
  have g4 : (w : Int) ≤ (l.length : Int) := by omega
  simp only [boomeranglaw3_FrameCut.l1]
  rw [if_neg ge, if_pos g1, if_pos g2, Int.toNat_natCast, all_f _ (by omega) _ (by omega), hL, hzs, hca.1, hca.2.1, hca.2.2, Option.bind_some]
  dsimp only
  rw [if_pos g3, if_pos g4, Int.toNat_natCast, take_back, same_f _ (by rw [List.length_take]; omega) _ (by rw [List.length_take]; omega), Option.bind_some, if_pos rfl, if_pos rfl]
  unfold boomeranglaw1_Err.f
  rw [Option.bind_some]
  by_cases he : En (l.map L) w = c
  · have hbb : (((0 : Int) == 0) != ((En (l.map L) w : Int) == (c : Int))) = false := by rw [he]; simp
    rw [if_pos he, if_pos rfl, Option.bind_some, hbb]
    exact hj2
  · have hbb : (((3 : Int) == 0) != ((En (l.map L) w : Int) == (c : Int))) = false := by
      have : ((En (l.map L) w : Int) == (c : Int)) = false := by rw [beq_eq_false_iff_ne]; omega
      rw [this]; rfl
    rw [if_neg he, if_neg (by decide), Option.bind_some, if_pos rfl, Option.bind_some, hbb]
    exact hj2
theorem cut_l1 (l : List ByteArray) (hx : ∀ x ∈ l.map L, x.length ≤ 300) (hl : l.length ≤ 12) (at_ b : Nat) (hat : at_ < 65536) (hb : b < 256) (k : Nat) (hk : 100000 ≤ k) (c : Nat) (hc : c ≤ (frms (l.map L)).length) : ∀ (d i w : Nat), i + d = l.length → w ≤ i → En (l.map L) w ≤ c → (∀ q, w < q → q ≤ i → c < En (l.map L) q) →
    boomeranglaw3_FrameCut.l1 (k + l.length + 1 + 1 + d + 1) l (at_ : Int) (b : Int) (ofL (frms (l.map L))) (ends (l.map L) l.length) (c : Int) (w : Int) (En (l.map L) w : Int) (i : Int) = some true
  | 0, i, w, hd, hw, h1, h3 => by
    obtain rfl : i = l.length := by omega
    exact cut_l1_end l hx hl at_ b hat hb k hk c w hc hw h1 h3
  | d + 1, i, w, hd, hw, h1, h3 => by
    have g1 : (i : Int) < ((ends (l.map L) l.length).length : Int) := by rw [ends_len]; omega
    have g2 : (0 : Int) ≤ (i : Int) := by omega
    show boomeranglaw3_FrameCut.l1 ((k + l.length + 1 + 1 + d + 1) + 1) _ _ _ _ _ _ _ _ _ = _
    simp only [boomeranglaw3_FrameCut.l1]
    rw [if_pos g1, if_pos g2, ends_rd _ _ i (by omega), w_succ i (by omega)]
    by_cases hle : En (l.map L) (i + 1) ≤ c
    · rw [if_pos (by omega)]
      exact cut_l1 l hx hl at_ b hat hb k hk c hc d (i + 1) (i + 1) (by omega) (by omega) hle (fun q hq1 hq2 => absurd hq1 (by omega))
    · rw [if_neg (by omega)]
      refine cut_l1 l hx hl at_ b hat hb k hk c hc d (i + 1) w (by omega) (by omega) h1 (fun q hq1 hq2 => ?_)
      by_cases hqi : q ≤ i
      · exact h3 q hq1 hqi
      · obtain rfl : q = i + 1 := by omega
        omega
theorem cut_l0 (l : List ByteArray) (hl : l.length ≤ 12) (cut at_ b : Nat) (hcut : cut < 65536) (hat : at_ < 65536) (hb : b < 256) (k : Nat) (hk : 100000 ≤ k) : ∀ (d i : Nat), i + d = l.length → (∀ q, q < i → ∀ h : q < l.length, l[q].size ≤ 300) →
    boomeranglaw3_FrameCut.l0 (k + l.length + 1 + 1 + l.length + 1 + d + 1) l (cut : Int) (at_ : Int) (b : Int) (ofL (frms ((l.map L).take i))) (ends (l.map L) i) (i : Int) = some true
  | 0, i, hd, hq => by
    obtain rfl : i = l.length := by omega
    have hx : ∀ x ∈ l.map L, x.length ≤ 300 := by
      intro x hxm
      obtain ⟨s, hs, rfl⟩ := List.mem_map.1 hxm
      obtain ⟨q, hq1, rfl⟩ := List.getElem_of_mem hs
      rw [L_len]
      exact hq q hq1 hq1
    have hfl := frms_len (l.map L) hx
    rw [List.length_map] at hfl
    have ht : (l.map L).take l.length = l.map L := List.take_of_length_le (by rw [List.length_map]; omega)
    have hsz : (ofL (frms (l.map L))).size = (frms (l.map L)).length := ofL_size _
    have hcl : cut % ((frms (l.map L)).length + 1) < (frms (l.map L)).length + 1 := Nat.mod_lt _ (by omega)
    have hgo := cut_l1 l hx hl at_ b hat hb k hk (cut % ((frms (l.map L)).length + 1)) (by omega) l.length 0 0 (by omega) (by omega) (by rw [En_zero]; omega) (fun q h1 h2 => absurd h1 (by omega))
    rw [En_zero, show ((0 : Nat) : Int) = 0 from rfl] at hgo
    have g : ¬ (l.length : Int) < (l.length : Int) := by omega
    have hne : ¬ (((frms (l.map L)).length + 1 : Nat) : Int) = 0 := by omega
    have em : Int.tmod (cut : Int) (((frms (l.map L)).length + 1 : Nat) : Int) = ((cut % ((frms (l.map L)).length + 1) : Nat) : Int) := by
      rw [Int.tmod_eq_emod_of_nonneg (by omega)]; exact (Int.natCast_emod _ _).symm
    have ec : wrap64 (cut : Int) = (cut : Int) := wrap_id (by omega) (by omega)
    have ew := w_succ (frms (l.map L)).length (by clear ec; omega)
    show boomeranglaw3_FrameCut.l0 ((k + l.length + 1 + 1 + l.length + 1) + 1) _ _ _ _ _ _ _ = _
    simp only [boomeranglaw3_FrameCut.l0]
    rw [if_neg g, ht, hsz, ew, if_neg hne, ec, em]
    exact hgo
  | d + 1, i, hd, hq => by
    have hi : i < l.length := by omega
    have g1 : (i : Int) < (l.length : Int) := by omega
    have g2 : (0 : Int) ≤ (i : Int) := by omega
    have hrd : rdOf ByteArray.empty l (i : Int) = l[i] := by unfold rdOf; simp [List.getD_eq_getElem?_getD, hi]
    show boomeranglaw3_FrameCut.l0 ((k + l.length + 1 + 1 + l.length + 1 + d + 1) + 1) _ _ _ _ _ _ _ = _
    simp only [boomeranglaw3_FrameCut.l0]
    rw [if_pos g1, if_pos g2, hrd]
    by_cases hbig : (l[i].size : Int) > 300
    · rw [if_pos hbig, awake3 _ (by omega)]
      rfl
    · have hs : l[i].size ≤ 300 := by omega
      have hll := L_len l[i]
      have hp : putF (L l[i]) = (frm (L l[i]), 0) := by unfold putF; rw [if_neg (by omega)]
      have hil : i < (l.map L).length := by rw [List.length_map]; exact hi
      have hgi : (l.map L)[i] = L l[i] := List.getElem_map _
      have hes := En_succ (l.map L) i hil
      rw [hgi] at hes
      have hx' : ∀ x ∈ (l.map L).take i, x.length ≤ 300 := by
        intro x hxm
        obtain ⟨q, hq1, rfl⟩ := List.getElem_of_mem hxm
        have hqi : q < i := by rw [List.length_take] at hq1; omega
        have hql : q < l.length := by omega
        rw [List.getElem_take, List.getElem_map, L_len]
        exact hq q hqi hql
      have hfl := frms_len _ hx'
      have htl : ((l.map L).take i).length = i := by rw [List.length_take, List.length_map]; omega
      rw [htl] at hfl
      have hsz : (ofL (frms ((l.map L).take i))).size = (frms ((l.map L).take i)).length := ofL_size _
      have hsz2 : (ofL (frm (L l[i]))).size = (frm (L l[i])).length := ofL_size _
      have hf3 := frm_length (L l[i])
      have hf4 := vput_len (i64_nat (n := (L l[i]).length) (by omega))
      have hap : ofL (frms ((l.map L).take i)) ++ ofL (frm (L l[i])) = ofL (frms ((l.map L).take (i + 1))) := by
        apply L_inj
        rw [L_append, L_ofL, L_ofL, L_ofL, List.take_succ_eq_append_getElem hil, frms_append, hgi]
        simp [frms]
      have hen : ends (l.map L) i ++ [((ofL (frms ((l.map L).take i))).size : Int) + ((ofL (frm (L l[i]))).size : Int)] = ends (l.map L) (i + 1) := by
        rw [ends_succ, hsz, hsz2]
        have hE : En (l.map L) i = (frms ((l.map L).take i)).length := rfl
        rw [← hE]
        congr 2
        omega
      have hel := ends_len (l.map L) i
      rw [if_neg hbig, fput_f l[i] (by omega) _ (by omega), hp, Option.bind_some]
      dsimp only
      unfold boomeranglaw1_Err.f
      rw [Option.bind_some, if_pos rfl, if_pos (by omega), if_pos (by omega), hap, hen, w_succ i (by omega)]
      refine cut_l0 l hl cut at_ b hcut hat hb k hk d (i + 1) (by omega) (fun q hq1 hq2 => ?_)
      by_cases hqi : q < i
      · exact hq q hqi hq2
      · obtain rfl : q = i := by omega
        exact hs
theorem cut_wf16 {x : Int} (h : (Lit.int .u16 x).wf = true) : 0 ≤ x ∧ x < 65536 := by
  have h1 : IntKind.u16.min ≤ x ∧ x ≤ IntKind.u16.max := by simpa [Lit.wf] using h
  have e1 : IntKind.u16.min = 0 := by decide
  have e2 : IntKind.u16.max = 65535 := by decide
  rw [e1, e2] at h1
  omega
theorem cut_wf8 {x : Int} (h : (Lit.int .u8 x).wf = true) : 0 ≤ x ∧ x < 256 := by
  have h1 : IntKind.u8.min ≤ x ∧ x ≤ IntKind.u8.max := by simpa [Lit.wf] using h
  have e1 : IntKind.u8.min = 0 := by decide
  have e2 : IntKind.u8.max = 255 := by decide
  rw [e1, e2] at h1
  omega

theorem FrameCut (l : List ByteArray) (a1 a2 a3 : Int) (w1 : (Lit.int .u16 a1).wf = true) (w2 : (Lit.int .u16 a2).wf = true) (w3 : (Lit.int .u8 a3).wf = true) : ∃ k, boomeranglaw3_FrameCut.f k l a1 a2 a3 = some true := by
  have r1 := cut_wf16 w1
  have r2 := cut_wf16 w2
  have r3 := cut_wf8 w3
  clear w1 w2 w3
  obtain ⟨cut, rfl⟩ : ∃ n : Nat, a1 = (n : Int) := ⟨a1.toNat, by omega⟩
  obtain ⟨at_, rfl⟩ : ∃ n : Nat, a2 = (n : Int) := ⟨a2.toNat, by omega⟩
  obtain ⟨b, rfl⟩ : ∃ n : Nat, a3 = (n : Int) := ⟨a3.toNat, by omega⟩
  obtain ⟨k, hk⟩ : ∃ k : Nat, k = 100000 := ⟨_, rfl⟩
  refine ⟨k + l.length + 1 + 1 + l.length + 1 + l.length + 1, ?_⟩
  unfold boomeranglaw3_FrameCut.f
  by_cases h1 : (l.length : Int) > 12
  · rw [if_pos h1, awake3 _ (by omega)]; rfl
  · have hgo := cut_l0 l (by omega) cut at_ b (by omega) (by omega) (by omega) k (by omega) l.length 0 (by omega) (fun q hq => absurd hq (by omega))
    rw [show ((0 : Nat) : Int) = 0 from rfl] at hgo
    rw [if_neg h1]
    exact hgo

end Go.Proofs.Ythhigjfkekdmiaa.Pure
