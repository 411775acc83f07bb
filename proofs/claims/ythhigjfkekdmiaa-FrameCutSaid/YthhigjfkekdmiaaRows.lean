/-
  No cell of these rows narrows 'for every input' (looked for: loops, veiled, ifaces, maps, wideKeys, modest, calm, conditions, laid).
  DERIVED. THE GIVEN ROWS OF THIS SEAT. 9 by the template 'for every input the law returns true; each argument reads behind the call as it read before'; 0 by the template 'total and deterministic' (their statements: YthhigjfkekdmiaaTotals.lean).
  GIVEN WITH THE SEED: the statements are not yours to turn. If you find one false, say at which input.
  Laid BY PROGRAM, IN A SANDBOX (cutbox-rows.mjs): the forced cells as the released guide's own fill.sh prints them over the translation 16cc171d3e6370dc… (all of the seat's roots in one cut). By AI agents, Wed Nov 11 2026. No macro, syntax, notation, axiom, sorry.
-/
import Derived.Test.YthhigjfkekdmiaaChecked
import GoSem.Claim
import GoSem.ClaimJoined
import GoSem.ClaimMapViews
import Derived.JoinedTies
import Derived.KernelRfl
namespace Go.Proofs.Ythhigjfkekdmiaa
/- THE CELL 'sum', in the pinned program and in every row, IS THE sha256 OF THE DUMP (.gsa) THAT YthhigjfkekdmiaaProg.lean LOADS. Nothing in Lean hashes anything: it is a label: what it is worth is what the hold of that sum in a sandbox is worth. -/
noncomputable def Try.pinned : Pinned := { name := "ythhigjfkekdmiaa", sum := "16cc171d3e6370dc0350333d76d5078a5a223b6126aa2bdc46fdb0d676e64c31", checked := Try.checked }
namespace Rows
def none {H : Type} : Left H := { results := [], args := [] }

/-- 'boomeranglaw2.CrcMix': WHATEVER THE INPUT: true; the input reads as it did. -/
def crcMixSpec : ChangeSpec := { name := "crcMix", fn := fun _ => fun
  | [d1, d2, d3] => { results := [.lit (.bool true)], args := [d1, d2, d3] }
  | _ => none }
def crcMixRow : OpenClaim := { program := "ythhigjfkekdmiaa", sum := "16cc171d3e6370dc0350333d76d5078a5a223b6126aa2bdc46fdb0d676e64c31", func := "boomerang/boomeranglaw2.CrcMix", spec := "crcMix", unfollowed := true, recurses := true, apart := false }
def CrcMixSaid : Prop := crcMixRow.holds Try.pinned (OpenSpec.ofChange crcMixSpec)

/-- ITS FALSE NEIGHBOUR: 'it returns false'. Refute it at one input. -/
def crcMixWrong : ChangeSpec := { name := "crcMix", fn := fun _ => fun
  | [d1, d2, d3] => { results := [.lit (.bool false)], args := [d1, d2, d3] }
  | _ => none }
def CrcMixWrongFalsely : Prop := crcMixRow.holds Try.pinned (OpenSpec.ofChange crcMixWrong)

/-- 'boomeranglaw2.CrcLast': WHATEVER THE INPUT: true; the input reads as it did. -/
def crcLastSpec : ChangeSpec := { name := "crcLast", fn := fun _ => fun
  | [d1, d2, d3, d4] => { results := [.lit (.bool true)], args := [d1, d2, d3, d4] }
  | _ => none }
def crcLastRow : OpenClaim := { program := "ythhigjfkekdmiaa", sum := "16cc171d3e6370dc0350333d76d5078a5a223b6126aa2bdc46fdb0d676e64c31", func := "boomerang/boomeranglaw2.CrcLast", spec := "crcLast", unfollowed := true, recurses := true, apart := false }
def CrcLastSaid : Prop := crcLastRow.holds Try.pinned (OpenSpec.ofChange crcLastSpec)

/-- ITS FALSE NEIGHBOUR: 'it returns false'. Refute it at one input. -/
def crcLastWrong : ChangeSpec := { name := "crcLast", fn := fun _ => fun
  | [d1, d2, d3, d4] => { results := [.lit (.bool false)], args := [d1, d2, d3, d4] }
  | _ => none }
def CrcLastWrongFalsely : Prop := crcLastRow.holds Try.pinned (OpenSpec.ofChange crcLastWrong)

/-- 'boomeranglaw2.CrcAll': WHATEVER THE INPUT: true; the input reads as it did. -/
def crcAllSpec : ChangeSpec := { name := "crcAll", fn := fun _ => fun
  | [d1, d2] => { results := [.lit (.bool true)], args := [d1, d2] }
  | _ => none }
def crcAllRow : OpenClaim := { program := "ythhigjfkekdmiaa", sum := "16cc171d3e6370dc0350333d76d5078a5a223b6126aa2bdc46fdb0d676e64c31", func := "boomerang/boomeranglaw2.CrcAll", spec := "crcAll", unfollowed := true, recurses := true, apart := false }
def CrcAllSaid : Prop := crcAllRow.holds Try.pinned (OpenSpec.ofChange crcAllSpec)

/-- ITS FALSE NEIGHBOUR: 'it returns false'. Refute it at one input. -/
def crcAllWrong : ChangeSpec := { name := "crcAll", fn := fun _ => fun
  | [d1, d2] => { results := [.lit (.bool false)], args := [d1, d2] }
  | _ => none }
def CrcAllWrongFalsely : Prop := crcAllRow.holds Try.pinned (OpenSpec.ofChange crcAllWrong)

/-- 'boomeranglaw2.CrcBursts': WHATEVER THE INPUT: true; the input reads as it did. -/
def crcBurstsSpec : ChangeSpec := { name := "crcBursts", fn := fun _ => fun
  | [d1, d2, d3] => { results := [.lit (.bool true)], args := [d1, d2, d3] }
  | _ => none }
def crcBurstsRow : OpenClaim := { program := "ythhigjfkekdmiaa", sum := "16cc171d3e6370dc0350333d76d5078a5a223b6126aa2bdc46fdb0d676e64c31", func := "boomerang/boomeranglaw2.CrcBursts", spec := "crcBursts", unfollowed := true, recurses := true, apart := false }
def CrcBurstsSaid : Prop := crcBurstsRow.holds Try.pinned (OpenSpec.ofChange crcBurstsSpec)

/-- ITS FALSE NEIGHBOUR: 'it returns false'. Refute it at one input. -/
def crcBurstsWrong : ChangeSpec := { name := "crcBursts", fn := fun _ => fun
  | [d1, d2, d3] => { results := [.lit (.bool false)], args := [d1, d2, d3] }
  | _ => none }
def CrcBurstsWrongFalsely : Prop := crcBurstsRow.holds Try.pinned (OpenSpec.ofChange crcBurstsWrong)

/-- 'boomeranglaw3.FrameAll': WHATEVER THE INPUT: true; the input reads as it did. -/
def frameAllSpec : ChangeSpec := { name := "frameAll", fn := fun _ => fun
  | [d1, d2] => { results := [.lit (.bool true)], args := [d1, d2] }
  | _ => none }
def frameAllRow : OpenClaim := { program := "ythhigjfkekdmiaa", sum := "16cc171d3e6370dc0350333d76d5078a5a223b6126aa2bdc46fdb0d676e64c31", func := "boomerang/boomeranglaw3.FrameAll", spec := "frameAll", unfollowed := true, recurses := true, apart := false }
def FrameAllSaid : Prop := frameAllRow.holds Try.pinned (OpenSpec.ofChange frameAllSpec)

/-- ITS FALSE NEIGHBOUR: 'it returns false'. Refute it at one input. -/
def frameAllWrong : ChangeSpec := { name := "frameAll", fn := fun _ => fun
  | [d1, d2] => { results := [.lit (.bool false)], args := [d1, d2] }
  | _ => none }
def FrameAllWrongFalsely : Prop := frameAllRow.holds Try.pinned (OpenSpec.ofChange frameAllWrong)

/-- 'boomeranglaw3.FrameCut': WHATEVER THE INPUT: true; the input reads as it did. -/
def frameCutSpec : ChangeSpec := { name := "frameCut", fn := fun _ => fun
  | [d1, d2, d3, d4] => { results := [.lit (.bool true)], args := [d1, d2, d3, d4] }
  | _ => none }
def frameCutRow : OpenClaim := { program := "ythhigjfkekdmiaa", sum := "16cc171d3e6370dc0350333d76d5078a5a223b6126aa2bdc46fdb0d676e64c31", func := "boomerang/boomeranglaw3.FrameCut", spec := "frameCut", unfollowed := true, recurses := true, apart := false }
def FrameCutSaid : Prop := frameCutRow.holds Try.pinned (OpenSpec.ofChange frameCutSpec)

/-- ITS FALSE NEIGHBOUR: 'it returns false'. Refute it at one input. -/
def frameCutWrong : ChangeSpec := { name := "frameCut", fn := fun _ => fun
  | [d1, d2, d3, d4] => { results := [.lit (.bool false)], args := [d1, d2, d3, d4] }
  | _ => none }
def FrameCutWrongFalsely : Prop := frameCutRow.holds Try.pinned (OpenSpec.ofChange frameCutWrong)

/-- 'boomeranglaw3.FrameLimits': WHATEVER THE INPUT: true; the input reads as it did. -/
def frameLimitsSpec : ChangeSpec := { name := "frameLimits", fn := fun _ => fun
  | [d] => { results := [.lit (.bool true)], args := [d] }
  | _ => none }
def frameLimitsRow : OpenClaim := { program := "ythhigjfkekdmiaa", sum := "16cc171d3e6370dc0350333d76d5078a5a223b6126aa2bdc46fdb0d676e64c31", func := "boomerang/boomeranglaw3.FrameLimits", spec := "frameLimits", unfollowed := true, recurses := true, apart := false }
def FrameLimitsSaid : Prop := frameLimitsRow.holds Try.pinned (OpenSpec.ofChange frameLimitsSpec)

/-- ITS FALSE NEIGHBOUR: 'it returns false'. Refute it at one input. -/
def frameLimitsWrong : ChangeSpec := { name := "frameLimits", fn := fun _ => fun
  | [d] => { results := [.lit (.bool false)], args := [d] }
  | _ => none }
def FrameLimitsWrongFalsely : Prop := frameLimitsRow.holds Try.pinned (OpenSpec.ofChange frameLimitsWrong)

/-- 'boomeranglaw3.FrameRows': WHATEVER THE INPUT: true; the input reads as it did. -/
def frameRowsSpec : ChangeSpec := { name := "frameRows", fn := fun _ => fun
  | [d1, d2] => { results := [.lit (.bool true)], args := [d1, d2] }
  | _ => none }
def frameRowsRow : OpenClaim := { program := "ythhigjfkekdmiaa", sum := "16cc171d3e6370dc0350333d76d5078a5a223b6126aa2bdc46fdb0d676e64c31", func := "boomerang/boomeranglaw3.FrameRows", spec := "frameRows", unfollowed := true, recurses := true, apart := false }
def FrameRowsSaid : Prop := frameRowsRow.holds Try.pinned (OpenSpec.ofChange frameRowsSpec)

/-- ITS FALSE NEIGHBOUR: 'it returns false'. Refute it at one input. -/
def frameRowsWrong : ChangeSpec := { name := "frameRows", fn := fun _ => fun
  | [d1, d2] => { results := [.lit (.bool false)], args := [d1, d2] }
  | _ => none }
def FrameRowsWrongFalsely : Prop := frameRowsRow.holds Try.pinned (OpenSpec.ofChange frameRowsWrong)

/-- 'boomeranglaw3.FrameSpoilt': WHATEVER THE INPUT: true; the input reads as it did. -/
def frameSpoiltSpec : ChangeSpec := { name := "frameSpoilt", fn := fun _ => fun
  | [d1, d2, d3, d4] => { results := [.lit (.bool true)], args := [d1, d2, d3, d4] }
  | _ => none }
def frameSpoiltRow : OpenClaim := { program := "ythhigjfkekdmiaa", sum := "16cc171d3e6370dc0350333d76d5078a5a223b6126aa2bdc46fdb0d676e64c31", func := "boomerang/boomeranglaw3.FrameSpoilt", spec := "frameSpoilt", unfollowed := true, recurses := true, apart := false }
def FrameSpoiltSaid : Prop := frameSpoiltRow.holds Try.pinned (OpenSpec.ofChange frameSpoiltSpec)

/-- ITS FALSE NEIGHBOUR: 'it returns false'. Refute it at one input. -/
def frameSpoiltWrong : ChangeSpec := { name := "frameSpoilt", fn := fun _ => fun
  | [d1, d2, d3, d4] => { results := [.lit (.bool false)], args := [d1, d2, d3, d4] }
  | _ => none }
def FrameSpoiltWrongFalsely : Prop := frameSpoiltRow.holds Try.pinned (OpenSpec.ofChange frameSpoiltWrong)

/- THE SECOND FORM. 'bulk': how many values and letters a reading holds, each counted each time it is reached (what is shared counts as often as it is met; a slice's spare places count too). A statement '..UptoSaid' is the law's where the arguments, and the package variables that the reading takes, are together of bulk at most 1048576: NARROWER than '..Said'. Prove '..Said' where nothing that the law and all that it calls make is longer than what came in: it says more and counts as full. Else prove '..UptoSaid'. A law counts once. -/
mutual
def uptoBulk {H : Type} : DataW H → Nat
  | .lit (.string bytes) => bytes.length + 1
  | .lit _ => 1
  | .nil => 1
  | .ptr d => uptoBulk d + 1
  | .slice elems spare => uptoBulkAll elems + uptoBulkAll spare + 1
  | .agg parts => uptoBulkAll parts + 1
  | .iface _ d => uptoBulk d + 1
  | .map entries => uptoBulkEntries entries + 1
  | .held _ => 1
def uptoBulkAll {H : Type} : List (DataW H) → Nat
  | [] => 0
  | d :: r => uptoBulk d + uptoBulkAll r
def uptoBulkEntries {H : Type} : List (Lit × DataW H) → Nat
  | [] => 0
  | x :: r => uptoBulkEntry x + uptoBulkEntries r
def uptoBulkEntry {H : Type} : Lit × DataW H → Nat
  | (.string bytes, d) => bytes.length + uptoBulk d + 1
  | (_, d) => uptoBulk d + 1
 end
def uptoSmall : (H : Type) → List (DataW H) → Bool := fun _ ds => decide (uptoBulkAll ds ≤ 1048576)
def OpenSpec.upto (s : _root_.Go.ChangeSpec) : _root_.Go.OpenSpec := { _root_.Go.OpenSpec.ofChange s with cond := some uptoSmall }

/-- 'boomeranglaw2.CrcMix', WHERE WHAT IT READS IS OF BULK AT MOST 1048576: true; the input reads as it did. -/
def crcMixUptoRow : OpenClaim := { program := "ythhigjfkekdmiaa", sum := "16cc171d3e6370dc0350333d76d5078a5a223b6126aa2bdc46fdb0d676e64c31", func := "boomerang/boomeranglaw2.CrcMix", spec := "crcMix", unfollowed := true, recurses := true, apart := false, narrowed := true }
def CrcMixUptoSaid : Prop := crcMixUptoRow.holds Try.pinned (OpenSpec.upto crcMixSpec)

/-- 'boomeranglaw2.CrcLast', WHERE WHAT IT READS IS OF BULK AT MOST 1048576: true; the input reads as it did. -/
def crcLastUptoRow : OpenClaim := { program := "ythhigjfkekdmiaa", sum := "16cc171d3e6370dc0350333d76d5078a5a223b6126aa2bdc46fdb0d676e64c31", func := "boomerang/boomeranglaw2.CrcLast", spec := "crcLast", unfollowed := true, recurses := true, apart := false, narrowed := true }
def CrcLastUptoSaid : Prop := crcLastUptoRow.holds Try.pinned (OpenSpec.upto crcLastSpec)

/-- 'boomeranglaw2.CrcAll', WHERE WHAT IT READS IS OF BULK AT MOST 1048576: true; the input reads as it did. -/
def crcAllUptoRow : OpenClaim := { program := "ythhigjfkekdmiaa", sum := "16cc171d3e6370dc0350333d76d5078a5a223b6126aa2bdc46fdb0d676e64c31", func := "boomerang/boomeranglaw2.CrcAll", spec := "crcAll", unfollowed := true, recurses := true, apart := false, narrowed := true }
def CrcAllUptoSaid : Prop := crcAllUptoRow.holds Try.pinned (OpenSpec.upto crcAllSpec)

/-- 'boomeranglaw2.CrcBursts', WHERE WHAT IT READS IS OF BULK AT MOST 1048576: true; the input reads as it did. -/
def crcBurstsUptoRow : OpenClaim := { program := "ythhigjfkekdmiaa", sum := "16cc171d3e6370dc0350333d76d5078a5a223b6126aa2bdc46fdb0d676e64c31", func := "boomerang/boomeranglaw2.CrcBursts", spec := "crcBursts", unfollowed := true, recurses := true, apart := false, narrowed := true }
def CrcBurstsUptoSaid : Prop := crcBurstsUptoRow.holds Try.pinned (OpenSpec.upto crcBurstsSpec)

/-- 'boomeranglaw3.FrameAll', WHERE WHAT IT READS IS OF BULK AT MOST 1048576: true; the input reads as it did. -/
def frameAllUptoRow : OpenClaim := { program := "ythhigjfkekdmiaa", sum := "16cc171d3e6370dc0350333d76d5078a5a223b6126aa2bdc46fdb0d676e64c31", func := "boomerang/boomeranglaw3.FrameAll", spec := "frameAll", unfollowed := true, recurses := true, apart := false, narrowed := true }
def FrameAllUptoSaid : Prop := frameAllUptoRow.holds Try.pinned (OpenSpec.upto frameAllSpec)

/-- 'boomeranglaw3.FrameCut', WHERE WHAT IT READS IS OF BULK AT MOST 1048576: true; the input reads as it did. -/
def frameCutUptoRow : OpenClaim := { program := "ythhigjfkekdmiaa", sum := "16cc171d3e6370dc0350333d76d5078a5a223b6126aa2bdc46fdb0d676e64c31", func := "boomerang/boomeranglaw3.FrameCut", spec := "frameCut", unfollowed := true, recurses := true, apart := false, narrowed := true }
def FrameCutUptoSaid : Prop := frameCutUptoRow.holds Try.pinned (OpenSpec.upto frameCutSpec)

/-- 'boomeranglaw3.FrameLimits', WHERE WHAT IT READS IS OF BULK AT MOST 1048576: true; the input reads as it did. -/
def frameLimitsUptoRow : OpenClaim := { program := "ythhigjfkekdmiaa", sum := "16cc171d3e6370dc0350333d76d5078a5a223b6126aa2bdc46fdb0d676e64c31", func := "boomerang/boomeranglaw3.FrameLimits", spec := "frameLimits", unfollowed := true, recurses := true, apart := false, narrowed := true }
def FrameLimitsUptoSaid : Prop := frameLimitsUptoRow.holds Try.pinned (OpenSpec.upto frameLimitsSpec)

/-- 'boomeranglaw3.FrameRows', WHERE WHAT IT READS IS OF BULK AT MOST 1048576: true; the input reads as it did. -/
def frameRowsUptoRow : OpenClaim := { program := "ythhigjfkekdmiaa", sum := "16cc171d3e6370dc0350333d76d5078a5a223b6126aa2bdc46fdb0d676e64c31", func := "boomerang/boomeranglaw3.FrameRows", spec := "frameRows", unfollowed := true, recurses := true, apart := false, narrowed := true }
def FrameRowsUptoSaid : Prop := frameRowsUptoRow.holds Try.pinned (OpenSpec.upto frameRowsSpec)

/-- 'boomeranglaw3.FrameSpoilt', WHERE WHAT IT READS IS OF BULK AT MOST 1048576: true; the input reads as it did. -/
def frameSpoiltUptoRow : OpenClaim := { program := "ythhigjfkekdmiaa", sum := "16cc171d3e6370dc0350333d76d5078a5a223b6126aa2bdc46fdb0d676e64c31", func := "boomerang/boomeranglaw3.FrameSpoilt", spec := "frameSpoilt", unfollowed := true, recurses := true, apart := false, narrowed := true }
def FrameSpoiltUptoSaid : Prop := frameSpoiltUptoRow.holds Try.pinned (OpenSpec.upto frameSpoiltSpec)

end Rows
end Go.Proofs.Ythhigjfkekdmiaa
