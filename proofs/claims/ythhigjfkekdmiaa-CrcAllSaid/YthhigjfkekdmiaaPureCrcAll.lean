/- For all texts: the sum of any bytes, with them, and what any bytes are with one, or the error, is the document's (the reference's). Condition: each text takes at most 140737488351232 bytes. -/
import Derived.Test.YthhigjfkekdmiaaCrcB
import Derived.Test.YthhigjfkekdmiaaM8
set_option linter.unusedSimpArgs false
set_option linter.unusedVariables false
namespace Go.Proofs.Ythhigjfkekdmiaa.Pure
open Go.RowKit Go.Proofs.Ythhigjfkekdmiaa Go.Proofs.Ythhigjfkekdmiaa.M Go.Proofs.YthhigjfkekdmiaaW.PrintWords Go.Proofs.YthhigjfkekdmiaaW.PrintLast Go.Proofs.YthhigjfkekdmiaaW.PrintMore Go.Proofs.Ythhigjfkekdmiaa.B

theorem all_t (s t : ByteArray) (k : Nat) : boomeranglaw2_CrcAll.j0 (k + 1) s t true = some true := by
  simp only [boomeranglaw2_CrcAll.j0]
  rw [if_pos trivial, awake2]
  rfl
theorem all_j (s t : ByteArray) (hs : s.size ≤ 400) (ht : t.size ≤ 400) (k : Nat) (hk : 5000 ≤ k) : boomeranglaw2_CrcAll.j0 (k + 1) s t false = some true := by
  simp only [boomeranglaw2_CrcAll.j0]
  rw [if_neg (by decide), get_f t (by omega)]
  simp only [Option.bind_some]
  rw [ref_get_f t (by omega) k (by omega)]
  simp only [Option.bind_some]
  rw [sum_f s (by omega)]
  simp only [Option.bind_some]
  rw [ref_sum_f s (by omega) k (by omega)]
  simp only [Option.bind_some]
  rw [if_pos trivial, put_f s (by omega)]
  simp only [Option.bind_some]
  rw [ref_put_f s (by omega) k (by omega)]
  simp only [Option.bind_some]
  rw [if_pos trivial, if_pos trivial]
  simp only [boomeranglaw1_Err.f, Option.bind_some]
  rw [if_pos trivial, awake2]
  rfl

theorem CrcAll : boomeranglaw2_CrcAll.Pure := by
  intro s t hs ht
  refine ⟨5001, ?_⟩
  unfold boomeranglaw2_CrcAll.f
  by_cases h1 : (s.size : Int) > 400
  · rw [if_pos h1]; exact all_t s t 5000
  · rw [if_neg h1]
    by_cases h2 : (t.size : Int) > 400
    · rw [decide_eq_true h2]; exact all_t s t 5000
    · rw [decide_eq_false h2]; exact all_j s t (by omega) (by omega) 5000 (by omega)

end Go.Proofs.Ythhigjfkekdmiaa.Pure
