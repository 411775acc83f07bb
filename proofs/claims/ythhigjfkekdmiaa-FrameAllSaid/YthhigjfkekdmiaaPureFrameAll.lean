/- For all texts: any text as a record, the records of any bytes, how many bytes they take, the error, are the document's (the reference's). Condition: each text takes at most 140737488351232 bytes. -/
import Derived.Test.YthhigjfkekdmiaaFrameB
import Derived.Test.YthhigjfkekdmiaaM19
set_option linter.unusedSimpArgs false
set_option linter.unusedVariables false
namespace Go.Proofs.Ythhigjfkekdmiaa.Pure
open Go.RowKit Go.Proofs.Ythhigjfkekdmiaa Go.Proofs.Ythhigjfkekdmiaa.M Go.Proofs.YthhigjfkekdmiaaW.PrintWords Go.Proofs.YthhigjfkekdmiaaW.PrintLast Go.Proofs.YthhigjfkekdmiaaW.PrintMore Go.Proofs.Ythhigjfkekdmiaa.B

theorem fall_t (s t : ByteArray) (k : Nat) (hk : 100 ≤ k) : boomeranglaw3_FrameAll.j0 (k + 1) s t true = some true := by
  simp only [boomeranglaw3_FrameAll.j0]
  rw [if_pos trivial, awake3 k hk]
  rfl
theorem fall_j (s t : ByteArray) (hs : s.size ≤ 5000) (ht : t.size ≤ 2000) (k : Nat) (hk : 200000 ≤ k) : boomeranglaw3_FrameAll.j0 (k + 1) s t false = some true := by
  have hu := allS_used (L t) (t.size + 1) 0 (by rw [L_len]; omega) (by omega)
  rw [show ((0 : Nat) : Int) = 0 from rfl] at hu
  simp only [boomeranglaw3_FrameAll.j0]
  rw [if_neg (by decide), fput_f s (by omega) k (by omega), Option.bind_some, ref_fput_f s (by omega) k (by omega) (by omega), Option.bind_some,
    all_f t (by omega) k (by omega), Option.bind_some, ref_all_f t (by omega) k (by omega), Option.bind_some]
  generalize allS (L t) (t.size + 1) 0 = r at *
  have hl0 : (r.l.map ofL).length = r.l.length := List.length_map _
  have hl : (r.l.map ofL).length ≤ 1000000 := by omega
  dsimp only
  rw [if_pos rfl]
  simp only [boomeranglaw1_Err.f]
  rw [Option.bind_some, if_pos rfl, same_f _ hl k (by omega), Option.bind_some, if_pos rfl, used_f _ _ _ (by omega), Option.bind_some, if_pos hu.1, Option.bind_some, if_pos rfl, awake3 k (by omega)]
  rfl

theorem FrameAll : boomeranglaw3_FrameAll.Pure := by
  intro s t hs ht
  obtain ⟨k, hk⟩ : ∃ k : Nat, k = 200000 := ⟨_, rfl⟩
  refine ⟨k + 1, ?_⟩
  unfold boomeranglaw3_FrameAll.f
  by_cases h1 : (s.size : Int) > 5000
  · rw [if_pos h1]; exact fall_t s t k (by omega)
  · rw [if_neg h1]
    by_cases h2 : (t.size : Int) > 2000
    · rw [decide_eq_true h2]; exact fall_t s t k (by omega)
    · rw [decide_eq_false h2]; exact fall_j s t (by omega) (by omega) k (by omega)

end Go.Proofs.Ythhigjfkekdmiaa.Pure
