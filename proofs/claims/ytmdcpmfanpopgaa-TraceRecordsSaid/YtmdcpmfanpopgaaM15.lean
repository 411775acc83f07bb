-- Written by a program of this session (wip/tools/mine.sh), out of the translation and hand-given contracts.
import Derived.Test.YtmdcpmfanpopgaaM0
namespace Go.Proofs.Ytmdcpmfanpopgaa.M
open Go.RowKit Go.Proofs.YtmdcpmfanpopgaaW.PrintWords Go.Proofs.YtmdcpmfanpopgaaW.PrintLast Go.Proofs.YtmdcpmfanpopgaaW.PrintMore
attribute [local go_sem] max2_int min2_int max_two min_two max_three min_three max_four min_four   -- for this text's walks alone
set_option linter.unusedVariables false
set_option linter.unusedSimpArgs false

-- NOT PRINTED: function 6 (boomeranglaw4_TraceRecords)

end Go.Proofs.Ytmdcpmfanpopgaa.M
