-- Laid by the kit's print tool for this claim's functions, and turned where it fell; Lean checks it.
import Derived.Test.YtpblbokdeappgabProg
import Derived.Below
import Derived.Deep.Draws
import Derived.Deep.AppendLies
import Derived.Maps.AppendAt
import Derived.OwnWalk
import Derived.Laws.BytesArg
import Derived.Laws.MakeOwn
import Derived.Laws.OwnMore
import Derived.Deep.OwnRows
import Derived.Tactics
import Derived.Lib.ConvBytes
import Derived.Laws.Slices
import Derived.WalkKit
import Derived.KernelRfl
import Derived.RowKit3
import Derived.Deep.LoopGhost
import Derived.Deep.QuietTactic
import Derived.BigQuiet
import Derived.WideLaws
import Derived.Deep.DeepCutAuto
import Derived.Deep.CutBlock
import Derived.Deep.RegionHeld3
import Derived.Laws.Rows
import Derived.Lib.AppendStr
import Derived.ArgAppend
import Derived.Laws.IdiomCopy
import Derived.OrdersHeld
import Derived.Laws.BitsLemmas
import Derived.RowKit
import Derived.Lib.MinMaxS
import Derived.Test.YtpblbokdeappgabStr
import Derived.Test.YtpblbokdeappgabWWords
import Derived.Test.YtpblbokdeappgabWLast
import Derived.Test.YtpblbokdeappgabWTab
import Derived.Test.YtpblbokdeappgabWFour
import Derived.Test.YtpblbokdeappgabWQPut
import Derived.Test.YtpblbokdeappgabWApart
import Derived.Test.YtpblbokdeappgabWArr
import Derived.Test.YtpblbokdeappgabWZeros
import Derived.Test.YtpblbokdeappgabWFoot
import Derived.Test.YtpblbokdeappgabWKept
import Derived.Test.YtpblbokdeappgabWShare
import Derived.Test.YtpblbokdeappgabWN
import Derived.Test.YtpblbokdeappgabWFootNe
import Derived.Test.YtpblbokdeappgabWAt
import Derived.Test.YtpblbokdeappgabWEqStruct
import Derived.Test.YtpblbokdeappgabWRepsOne
import Derived.Test.YtpblbokdeappgabWInv
import Derived.Test.YtpblbokdeappgabWInvWords
import Derived.Test.YtpblbokdeappgabWGuard
import Derived.Test.YtpblbokdeappgabWNEv
import Derived.Test.YtpblbokdeappgabWMore
namespace Go.Proofs.Ytpblbokdeappgab.Q
open Go.RowKit Go.Proofs.YtpblbokdeappgabW.PrintWords Go.Proofs.YtpblbokdeappgabW.PrintLast Go.Proofs.YtpblbokdeappgabW.PrintMore
attribute [local go_sem] Go.Proofs.Ytpblbokdeappgab.Str.max2_str Go.Proofs.Ytpblbokdeappgab.Str.min2_str Go.Proofs.Ytpblbokdeappgab.Str.leq_law Go.Proofs.Ytpblbokdeappgab.Str.gtr_law Go.Proofs.Ytpblbokdeappgab.Str.geq_law max2_int min2_int max_two min_two max_three min_three max_four min_four   -- for this text's walks alone
set_option linter.unusedVariables false
set_option linter.unusedSimpArgs false



def errW : Option Int → Value
  | none => .nilIface
  | some c => .iface 0 (.int .i64 c)
theorem errW_none : errW none = .nilIface := rfl
theorem errW_some (c : Int) : errW (some c) = .iface 0 (.int .i64 c) := rfl

theorem info5 : (Try.prog.info? 5).map (fun i => (i.zero, i.size, i.bytes)) = some (some (.int .u8 0), 1, 1) := by kernel_rfl
-- the values' own types

end Go.Proofs.Ytpblbokdeappgab.Q
