-- Written by a program of this session (wip/tools/hprint.py), which drives the kit's print; not print.sh's own output.
import Derived.Test.YtmfhhlgjbjbnhaaDoorHS0
import Derived.Test.YtmfhhlgjbjbnhaaDoorHS1
import Derived.Test.YtmfhhlgjbjbnhaaDoorHS2
namespace Go.Proofs.YtmfhhlgjbjbnhaaDoor.HS
open Go.RowKit Go.Proofs.YtmfhhlgjbjbnhaaDoorW.PrintWords Go.Proofs.YtmfhhlgjbjbnhaaDoorW.PrintLast Go.Proofs.YtmfhhlgjbjbnhaaDoorW.PrintMore
attribute [local go_sem] max2_int min2_int max_two min_two max_three min_three max_four min_four   -- for this text's walks alone
set_option linter.unusedVariables false
set_option linter.unusedSimpArgs false

end Go.Proofs.YtmfhhlgjbjbnhaaDoor.HS
