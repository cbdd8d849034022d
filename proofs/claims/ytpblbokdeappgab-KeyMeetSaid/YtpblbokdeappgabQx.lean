-- Laid by the kit's print tool for this claim's functions, and turned where it fell; Lean checks it.
import Derived.Test.YtpblbokdeappgabQx0
import Derived.Test.YtpblbokdeappgabQx1
import Derived.Test.YtpblbokdeappgabQx2
import Derived.Test.YtpblbokdeappgabQx3
import Derived.Test.YtpblbokdeappgabQx4
import Derived.Test.YtpblbokdeappgabQx5
import Derived.Test.YtpblbokdeappgabQx6
import Derived.Test.YtpblbokdeappgabQx7
namespace Go.Proofs.Ytpblbokdeappgab.Q
open Go.RowKit Go.Proofs.YtpblbokdeappgabW.PrintWords Go.Proofs.YtpblbokdeappgabW.PrintLast Go.Proofs.YtpblbokdeappgabW.PrintMore
attribute [local go_sem] Go.Proofs.Ytpblbokdeappgab.Str.max2_str Go.Proofs.Ytpblbokdeappgab.Str.min2_str Go.Proofs.Ytpblbokdeappgab.Str.leq_law Go.Proofs.Ytpblbokdeappgab.Str.gtr_law Go.Proofs.Ytpblbokdeappgab.Str.geq_law max2_int min2_int max_two min_two max_three min_three max_four min_four   -- for this text's walks alone
set_option linter.unusedVariables false
set_option linter.unusedSimpArgs false

end Go.Proofs.Ytpblbokdeappgab.Q
