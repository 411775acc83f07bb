/-
  No cell of these rows narrows 'for every input' (looked for: loops, veiled, ifaces, maps, wideKeys, modest, calm, conditions, laid).
  DERIVED. THE GIVEN ROWS OF THIS SEAT. 5 by the template 'for every input the law returns true; each argument reads behind the call as it read before'; 0 by the template 'total and deterministic' (their statements: YtmdcpmfanpopgaaTotals.lean).
  GIVEN WITH THE SEED: the statements are not yours to turn. If you find one false, say at which input.
  Laid BY PROGRAM, IN A SANDBOX (cutbox-rows.mjs): the forced cells as the released guide's own fill.sh prints them over the translation d3dc6c2dff95ae55… (all of the seat's roots in one cut). By AI agents, Wed Nov 11 2026. No macro, syntax, notation, axiom, sorry.
-/
import Derived.Test.YtmdcpmfanpopgaaChecked
import GoSem.Claim
import GoSem.ClaimJoined
import GoSem.ClaimMapViews
import Derived.JoinedTies
import Derived.KernelRfl
namespace Go.Proofs.Ytmdcpmfanpopgaa
/- THE CELL 'sum', in the pinned program and in every row, IS THE sha256 OF THE DUMP (.gsa) THAT YtmdcpmfanpopgaaProg.lean LOADS. Nothing in Lean hashes anything: it is a label: what it is worth is what the hold of that sum in a sandbox is worth. -/
noncomputable def Try.pinned : Pinned := { name := "ytmdcpmfanpopgaa", sum := "d3dc6c2dff95ae553f1cc691eae3df5ddc53b490123408603ad400a93d25ba29", checked := Try.checked }
namespace Rows
def none {H : Type} : Left H := { results := [], args := [] }

/-- 'boomeranglaw4.TraceAll': WHATEVER THE INPUT: true; the input reads as it did. -/
def traceAllSpec : ChangeSpec := { name := "traceAll", fn := fun _ => fun
  | [d1, d2, d3] => { results := [.lit (.bool true)], args := [d1, d2, d3] }
  | _ => none }
def traceAllRow : OpenClaim := { program := "ytmdcpmfanpopgaa", sum := "d3dc6c2dff95ae553f1cc691eae3df5ddc53b490123408603ad400a93d25ba29", func := "boomerang/boomeranglaw4.TraceAll", spec := "traceAll", unfollowed := true, recurses := true, leaving := true, apart := false }
def TraceAllSaid : Prop := traceAllRow.holds Try.pinned (OpenSpec.ofChange traceAllSpec)

/-- ITS FALSE NEIGHBOUR: 'it returns false'. Refute it at one input. -/
def traceAllWrong : ChangeSpec := { name := "traceAll", fn := fun _ => fun
  | [d1, d2, d3] => { results := [.lit (.bool false)], args := [d1, d2, d3] }
  | _ => none }
def TraceAllWrongFalsely : Prop := traceAllRow.holds Try.pinned (OpenSpec.ofChange traceAllWrong)

/-- 'boomeranglaw4.TraceBack': WHATEVER THE INPUT: true; the input reads as it did. -/
def traceBackSpec : ChangeSpec := { name := "traceBack", fn := fun _ => fun
  | [d1, d2, d3, d4] => { results := [.lit (.bool true)], args := [d1, d2, d3, d4] }
  | _ => none }
def traceBackRow : OpenClaim := { program := "ytmdcpmfanpopgaa", sum := "d3dc6c2dff95ae553f1cc691eae3df5ddc53b490123408603ad400a93d25ba29", func := "boomerang/boomeranglaw4.TraceBack", spec := "traceBack", unfollowed := true, recurses := true, leaving := true, apart := false }
def TraceBackSaid : Prop := traceBackRow.holds Try.pinned (OpenSpec.ofChange traceBackSpec)

/-- ITS FALSE NEIGHBOUR: 'it returns false'. Refute it at one input. -/
def traceBackWrong : ChangeSpec := { name := "traceBack", fn := fun _ => fun
  | [d1, d2, d3, d4] => { results := [.lit (.bool false)], args := [d1, d2, d3, d4] }
  | _ => none }
def TraceBackWrongFalsely : Prop := traceBackRow.holds Try.pinned (OpenSpec.ofChange traceBackWrong)

/-- 'boomeranglaw4.TraceRefuses': WHATEVER THE INPUT: true; the input reads as it did. -/
def traceRefusesSpec : ChangeSpec := { name := "traceRefuses", fn := fun _ => fun
  | [d1, d2] => { results := [.lit (.bool true)], args := [d1, d2] }
  | _ => none }
def traceRefusesRow : OpenClaim := { program := "ytmdcpmfanpopgaa", sum := "d3dc6c2dff95ae553f1cc691eae3df5ddc53b490123408603ad400a93d25ba29", func := "boomerang/boomeranglaw4.TraceRefuses", spec := "traceRefuses", unfollowed := true, recurses := true, leaving := true, apart := false }
def TraceRefusesSaid : Prop := traceRefusesRow.holds Try.pinned (OpenSpec.ofChange traceRefusesSpec)

/-- ITS FALSE NEIGHBOUR: 'it returns false'. Refute it at one input. -/
def traceRefusesWrong : ChangeSpec := { name := "traceRefuses", fn := fun _ => fun
  | [d1, d2] => { results := [.lit (.bool false)], args := [d1, d2] }
  | _ => none }
def TraceRefusesWrongFalsely : Prop := traceRefusesRow.holds Try.pinned (OpenSpec.ofChange traceRefusesWrong)

/-- 'boomeranglaw4.TraceRecords': WHATEVER THE INPUT: true; the input reads as it did. -/
def traceRecordsSpec : ChangeSpec := { name := "traceRecords", fn := fun _ => fun
  | [d1, d2, d3, d4] => { results := [.lit (.bool true)], args := [d1, d2, d3, d4] }
  | _ => none }
def traceRecordsRow : OpenClaim := { program := "ytmdcpmfanpopgaa", sum := "d3dc6c2dff95ae553f1cc691eae3df5ddc53b490123408603ad400a93d25ba29", func := "boomerang/boomeranglaw4.TraceRecords", spec := "traceRecords", unfollowed := true, recurses := true, leaving := true, apart := false }
def TraceRecordsSaid : Prop := traceRecordsRow.holds Try.pinned (OpenSpec.ofChange traceRecordsSpec)

/-- ITS FALSE NEIGHBOUR: 'it returns false'. Refute it at one input. -/
def traceRecordsWrong : ChangeSpec := { name := "traceRecords", fn := fun _ => fun
  | [d1, d2, d3, d4] => { results := [.lit (.bool false)], args := [d1, d2, d3, d4] }
  | _ => none }
def TraceRecordsWrongFalsely : Prop := traceRecordsRow.holds Try.pinned (OpenSpec.ofChange traceRecordsWrong)

/-- 'boomeranglaw4.TraceForms': WHATEVER THE INPUT: true; the input reads as it did. -/
def traceFormsSpec : ChangeSpec := { name := "traceForms", fn := fun _ => fun
  | [d1, d2] => { results := [.lit (.bool true)], args := [d1, d2] }
  | _ => none }
def traceFormsRow : OpenClaim := { program := "ytmdcpmfanpopgaa", sum := "d3dc6c2dff95ae553f1cc691eae3df5ddc53b490123408603ad400a93d25ba29", func := "boomerang/boomeranglaw4.TraceForms", spec := "traceForms", unfollowed := true, recurses := true, leaving := true, apart := false }
def TraceFormsSaid : Prop := traceFormsRow.holds Try.pinned (OpenSpec.ofChange traceFormsSpec)

/-- ITS FALSE NEIGHBOUR: 'it returns false'. Refute it at one input. -/
def traceFormsWrong : ChangeSpec := { name := "traceForms", fn := fun _ => fun
  | [d1, d2] => { results := [.lit (.bool false)], args := [d1, d2] }
  | _ => none }
def TraceFormsWrongFalsely : Prop := traceFormsRow.holds Try.pinned (OpenSpec.ofChange traceFormsWrong)

/- THE SECOND FORM. 'bulk': how many values and letters a reading holds, each counted each time it is reached (what is shared counts as often as it is met; a slice's spare places count too). A statement '..UptoSaid' is the law's where the arguments, and the package variables that the reading takes, are together of bulk at most 1048576: NARROWER than '..Said'. Prove '..Said' where nothing that the law and all that it calls make is longer than what came in: it says more and counts as full. Else prove '..UptoSaid'. A law counts once. -/
mutual
def uptoBulk {H : Type} : DataW H → Nat
  | .lit (.string bytes) => bytes.length + 1
  | .lit _ => 1
  | .nil => 1
  | .ptr d => uptoBulk d + 1
  | .slice elems spare => uptoBulkAll elems + uptoBulkAll spare + 1
  | .agg parts => uptoBulkAll parts + 1
  | .iface _ d => uptoBulk d + 1
  | .map entries => uptoBulkEntries entries + 1
  | .held _ => 1
def uptoBulkAll {H : Type} : List (DataW H) → Nat
  | [] => 0
  | d :: r => uptoBulk d + uptoBulkAll r
def uptoBulkEntries {H : Type} : List (Lit × DataW H) → Nat
  | [] => 0
  | x :: r => uptoBulkEntry x + uptoBulkEntries r
def uptoBulkEntry {H : Type} : Lit × DataW H → Nat
  | (.string bytes, d) => bytes.length + uptoBulk d + 1
  | (_, d) => uptoBulk d + 1
 end
def uptoSmall : (H : Type) → List (DataW H) → Bool := fun _ ds => decide (uptoBulkAll ds ≤ 1048576)
def OpenSpec.upto (s : _root_.Go.ChangeSpec) : _root_.Go.OpenSpec := { _root_.Go.OpenSpec.ofChange s with cond := some uptoSmall }

/-- 'boomeranglaw4.TraceAll', WHERE WHAT IT READS IS OF BULK AT MOST 1048576: true; the input reads as it did. -/
def traceAllUptoRow : OpenClaim := { program := "ytmdcpmfanpopgaa", sum := "d3dc6c2dff95ae553f1cc691eae3df5ddc53b490123408603ad400a93d25ba29", func := "boomerang/boomeranglaw4.TraceAll", spec := "traceAll", unfollowed := true, recurses := true, leaving := true, apart := false, narrowed := true }
def TraceAllUptoSaid : Prop := traceAllUptoRow.holds Try.pinned (OpenSpec.upto traceAllSpec)

/-- 'boomeranglaw4.TraceBack', WHERE WHAT IT READS IS OF BULK AT MOST 1048576: true; the input reads as it did. -/
def traceBackUptoRow : OpenClaim := { program := "ytmdcpmfanpopgaa", sum := "d3dc6c2dff95ae553f1cc691eae3df5ddc53b490123408603ad400a93d25ba29", func := "boomerang/boomeranglaw4.TraceBack", spec := "traceBack", unfollowed := true, recurses := true, leaving := true, apart := false, narrowed := true }
def TraceBackUptoSaid : Prop := traceBackUptoRow.holds Try.pinned (OpenSpec.upto traceBackSpec)

/-- 'boomeranglaw4.TraceRefuses', WHERE WHAT IT READS IS OF BULK AT MOST 1048576: true; the input reads as it did. -/
def traceRefusesUptoRow : OpenClaim := { program := "ytmdcpmfanpopgaa", sum := "d3dc6c2dff95ae553f1cc691eae3df5ddc53b490123408603ad400a93d25ba29", func := "boomerang/boomeranglaw4.TraceRefuses", spec := "traceRefuses", unfollowed := true, recurses := true, leaving := true, apart := false, narrowed := true }
def TraceRefusesUptoSaid : Prop := traceRefusesUptoRow.holds Try.pinned (OpenSpec.upto traceRefusesSpec)

/-- 'boomeranglaw4.TraceRecords', WHERE WHAT IT READS IS OF BULK AT MOST 1048576: true; the input reads as it did. -/
def traceRecordsUptoRow : OpenClaim := { program := "ytmdcpmfanpopgaa", sum := "d3dc6c2dff95ae553f1cc691eae3df5ddc53b490123408603ad400a93d25ba29", func := "boomerang/boomeranglaw4.TraceRecords", spec := "traceRecords", unfollowed := true, recurses := true, leaving := true, apart := false, narrowed := true }
def TraceRecordsUptoSaid : Prop := traceRecordsUptoRow.holds Try.pinned (OpenSpec.upto traceRecordsSpec)

/-- 'boomeranglaw4.TraceForms', WHERE WHAT IT READS IS OF BULK AT MOST 1048576: true; the input reads as it did. -/
def traceFormsUptoRow : OpenClaim := { program := "ytmdcpmfanpopgaa", sum := "d3dc6c2dff95ae553f1cc691eae3df5ddc53b490123408603ad400a93d25ba29", func := "boomerang/boomeranglaw4.TraceForms", spec := "traceForms", unfollowed := true, recurses := true, leaving := true, apart := false, narrowed := true }
def TraceFormsUptoSaid : Prop := traceFormsUptoRow.holds Try.pinned (OpenSpec.upto traceFormsSpec)

end Rows
end Go.Proofs.Ytmdcpmfanpopgaa
