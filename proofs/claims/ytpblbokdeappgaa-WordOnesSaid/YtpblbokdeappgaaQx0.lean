-- Laid by the kit's print tool for this claim's functions, and turned where it fell; Lean checks it.
import Derived.Test.YtpblbokdeappgaaProg
import Derived.Below
import Derived.Deep.Draws
import Derived.Deep.AppendLies
import Derived.Maps.AppendAt
import Derived.OwnWalk
import Derived.Laws.BytesArg
import Derived.Laws.MakeOwn
import Derived.Laws.OwnMore
import Derived.Deep.OwnRows
import Derived.Tactics
import Derived.Lib.ConvBytes
import Derived.Laws.Slices
import Derived.WalkKit
import Derived.KernelRfl
import Derived.RowKit3
import Derived.Deep.LoopGhost
import Derived.Deep.QuietTactic
import Derived.BigQuiet
import Derived.WideLaws
import Derived.Deep.DeepCutAuto
import Derived.Deep.CutBlock
import Derived.Deep.RegionHeld3
import Derived.Laws.Rows
import Derived.Lib.AppendStr
import Derived.ArgAppend
import Derived.Laws.IdiomCopy
import Derived.OrdersHeld
import Derived.Laws.BitsLemmas
import Derived.RowKit
import Derived.Test.YtpblbokdeappgaaWWords
import Derived.Test.YtpblbokdeappgaaWLast
import Derived.Test.YtpblbokdeappgaaWTab
import Derived.Test.YtpblbokdeappgaaWFour
import Derived.Test.YtpblbokdeappgaaWQPut
import Derived.Test.YtpblbokdeappgaaWApart
import Derived.Test.YtpblbokdeappgaaWArr
import Derived.Test.YtpblbokdeappgaaWZeros
import Derived.Test.YtpblbokdeappgaaWFoot
import Derived.Test.YtpblbokdeappgaaWKept
import Derived.Test.YtpblbokdeappgaaWShare
import Derived.Test.YtpblbokdeappgaaWN
import Derived.Test.YtpblbokdeappgaaWFootNe
import Derived.Test.YtpblbokdeappgaaWAt
import Derived.Test.YtpblbokdeappgaaWEqStruct
import Derived.Test.YtpblbokdeappgaaWRepsOne
import Derived.Test.YtpblbokdeappgaaWInv
import Derived.Test.YtpblbokdeappgaaWInvWords
import Derived.Test.YtpblbokdeappgaaWGuard
import Derived.Test.YtpblbokdeappgaaWNEv
import Derived.Test.YtpblbokdeappgaaWMore
namespace Go.Proofs.Ytpblbokdeappgaa.Q
open Go.RowKit Go.Proofs.YtpblbokdeappgaaW.PrintWords Go.Proofs.YtpblbokdeappgaaW.PrintLast Go.Proofs.YtpblbokdeappgaaW.PrintMore
attribute [local go_sem] max2_int min2_int max_two min_two max_three min_three max_four min_four   -- for this text's walks alone
set_option linter.unusedVariables false
set_option linter.unusedSimpArgs false



def errW : Option Int → Value
  | none => .nilIface
  | some c => .iface 0 (.int .i64 c)
theorem errW_none : errW none = .nilIface := rfl
theorem errW_some (c : Int) : errW (some c) = .iface 0 (.int .i64 c) := rfl

-- the values' own types

end Go.Proofs.Ytpblbokdeappgaa.Q
