-- Laid by the kit's print tool for this claim's functions, and turned where it fell; Lean checks it.
import Derived.Test.YtpblbokdeappgaaQx0
import Derived.Test.YtpblbokdeappgaaQx1
import Derived.Test.YtpblbokdeappgaaQx2
import Derived.Test.YtpblbokdeappgaaQx3
import Derived.Test.YtpblbokdeappgaaQx4
import Derived.Test.YtpblbokdeappgaaQx5
import Derived.Test.YtpblbokdeappgaaQx6
import Derived.Test.YtpblbokdeappgaaQx7
namespace Go.Proofs.Ytpblbokdeappgaa.Q
open Go.RowKit Go.Proofs.YtpblbokdeappgaaW.PrintWords Go.Proofs.YtpblbokdeappgaaW.PrintLast Go.Proofs.YtpblbokdeappgaaW.PrintMore
attribute [local go_sem] max2_int min2_int max_two min_two max_three min_three max_four min_four   -- for this text's walks alone
set_option linter.unusedVariables false
set_option linter.unusedSimpArgs false

end Go.Proofs.Ytpblbokdeappgaa.Q
