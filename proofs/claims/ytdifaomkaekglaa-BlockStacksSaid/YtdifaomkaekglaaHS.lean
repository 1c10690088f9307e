-- Written by a program of this session (wip/tools/hprint.py), which drives the kit's print; not print.sh's own output.
import Derived.Test.YtdifaomkaekglaaHS0
import Derived.Test.YtdifaomkaekglaaHS1
import Derived.Test.YtdifaomkaekglaaHS2
namespace Go.Proofs.Ytdifaomkaekglaa.HS
open Go.RowKit Go.Proofs.YtdifaomkaekglaaW.PrintWords Go.Proofs.YtdifaomkaekglaaW.PrintLast Go.Proofs.YtdifaomkaekglaaW.PrintMore
attribute [local go_sem] max2_int min2_int max_two min_two max_three min_three max_four min_four   -- for this text's walks alone
set_option linter.unusedVariables false
set_option linter.unusedSimpArgs false

end Go.Proofs.Ytdifaomkaekglaa.HS
