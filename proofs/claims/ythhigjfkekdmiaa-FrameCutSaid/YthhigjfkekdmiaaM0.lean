-- Written by a program of this session (wip/tools/mine.sh), out of the translation and hand-given contracts.
import Derived.Test.YthhigjfkekdmiaaProg
import Derived.Below
import Derived.Deep.Draws
import Derived.Deep.AppendLies
import Derived.Maps.AppendAt
import Derived.OwnWalk
import Derived.Laws.BytesArg
import Derived.Laws.MakeOwn
import Derived.Laws.OwnMore
import Derived.Deep.OwnRows
import Derived.Tactics
import Derived.Lib.ConvBytes
import Derived.Laws.Slices
import Derived.WalkKit
import Derived.KernelRfl
import Derived.RowKit3
import Derived.Deep.LoopGhost
import Derived.Deep.QuietTactic
import Derived.BigQuiet
import Derived.WideLaws
import Derived.Deep.DeepCutAuto
import Derived.Deep.CutBlock
import Derived.Deep.RegionHeld3
import Derived.Laws.Rows
import Derived.Lib.AppendStr
import Derived.ArgAppend
import Derived.Laws.IdiomCopy
import Derived.OrdersHeld
import Derived.Laws.BitsLemmas
import Derived.RowKit
import Derived.Lib.Hide
import Derived.Test.YthhigjfkekdmiaaCrc
import Derived.Test.YthhigjfkekdmiaaMarks
import Derived.Test.YthhigjfkekdmiaaWWords
import Derived.Test.YthhigjfkekdmiaaWLast
import Derived.Test.YthhigjfkekdmiaaWTab
import Derived.Test.YthhigjfkekdmiaaWFour
import Derived.Test.YthhigjfkekdmiaaWQPut
import Derived.Test.YthhigjfkekdmiaaWApart
import Derived.Test.YthhigjfkekdmiaaWArr
import Derived.Test.YthhigjfkekdmiaaWZeros
import Derived.Test.YthhigjfkekdmiaaWFoot
import Derived.Test.YthhigjfkekdmiaaWKept
import Derived.Test.YthhigjfkekdmiaaWShare
import Derived.Test.YthhigjfkekdmiaaWN
import Derived.Test.YthhigjfkekdmiaaWFootNe
import Derived.Test.YthhigjfkekdmiaaWAt
import Derived.Test.YthhigjfkekdmiaaWEqStruct
import Derived.Test.YthhigjfkekdmiaaWRepsOne
import Derived.Test.YthhigjfkekdmiaaWInv
import Derived.Test.YthhigjfkekdmiaaWInvWords
import Derived.Test.YthhigjfkekdmiaaWGuard
import Derived.Test.YthhigjfkekdmiaaWNEv
import Derived.Test.YthhigjfkekdmiaaWMore
namespace Go.Proofs.Ythhigjfkekdmiaa.M
open Go.RowKit Go.Proofs.YthhigjfkekdmiaaW.PrintWords Go.Proofs.YthhigjfkekdmiaaW.PrintLast Go.Proofs.YthhigjfkekdmiaaW.PrintMore
attribute [local go_sem] max2_int min2_int max_two min_two max_three min_three max_four min_four   -- for this text's walks alone
set_option linter.unusedVariables false
set_option linter.unusedSimpArgs false



def errW : Option Int → Value
 | none => .nilIface
 | some c => .iface 0 (.int .i64 c)
theorem errW_none : errW none = .nilIface := rfl
theorem errW_some (c : Int) : errW (some c) = .iface 0 (.int .i64 c) := rfl

theorem info3 : (Try.prog.info? 3).map (fun i => (i.zero, i.size, i.bytes)) = some (some (.int .i64 0), 1, 8) := by kernel_rfl
theorem info5 : (Try.prog.info? 5).map (fun i => (i.zero, i.size, i.bytes)) = some (some (.int .u8 0), 1, 1) := by kernel_rfl
theorem info9 : (Try.prog.info? 9).map (fun i => (i.zero, i.size, i.bytes)) = some (some (.string ⟨#[]⟩), 1, 16) := by kernel_rfl
theorem info23 : (Try.prog.info? 23).map (fun i => (i.zero, i.size, i.bytes)) = some (some (.int .u32 0), 1, 4) := by kernel_rfl
-- the values' own types

end Go.Proofs.Ythhigjfkekdmiaa.M
