-- Written by a program of this session (wip/tools/mine.sh), out of the translation and hand-given contracts.
import Derived.Test.YtmdcpmfanpopgaaM0
import Derived.Test.YtmdcpmfanpopgaaM1
import Derived.Test.YtmdcpmfanpopgaaM2
import Derived.Test.YtmdcpmfanpopgaaM3
import Derived.Test.YtmdcpmfanpopgaaM4
import Derived.Test.YtmdcpmfanpopgaaM5
import Derived.Test.YtmdcpmfanpopgaaM6
import Derived.Test.YtmdcpmfanpopgaaM7
import Derived.Test.YtmdcpmfanpopgaaM8
import Derived.Test.YtmdcpmfanpopgaaM9
import Derived.Test.YtmdcpmfanpopgaaM10
import Derived.Test.YtmdcpmfanpopgaaM11
import Derived.Test.YtmdcpmfanpopgaaM12
import Derived.Test.YtmdcpmfanpopgaaM13
import Derived.Test.YtmdcpmfanpopgaaM14
import Derived.Test.YtmdcpmfanpopgaaM15
namespace Go.Proofs.Ytmdcpmfanpopgaa.M
open Go.RowKit Go.Proofs.YtmdcpmfanpopgaaW.PrintWords Go.Proofs.YtmdcpmfanpopgaaW.PrintLast Go.Proofs.YtmdcpmfanpopgaaW.PrintMore
attribute [local go_sem] max2_int min2_int max_two min_two max_three min_three max_four min_four   -- for this text's walks alone
set_option linter.unusedVariables false
set_option linter.unusedSimpArgs false

end Go.Proofs.Ytmdcpmfanpopgaa.M
