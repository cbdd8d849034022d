-- Laid by the kit's print tool for this claim's functions, and turned where it fell; Lean checks it.
import Derived.Test.YtecjkpjcmgohmaaProg
import Derived.Below
import Derived.Deep.Draws
import Derived.Deep.AppendLies
import Derived.Maps.AppendAt
import Derived.OwnWalk
import Derived.Laws.BytesArg
import Derived.Laws.MakeOwn
import Derived.Laws.OwnMore
import Derived.Deep.OwnRows
import Derived.Tactics
import Derived.Lib.ConvBytes
import Derived.Laws.Slices
import Derived.WalkKit
import Derived.KernelRfl
import Derived.RowKit3
import Derived.Deep.LoopGhost
import Derived.Deep.QuietTactic
import Derived.BigQuiet
import Derived.WideLaws
import Derived.Deep.DeepCutAuto
import Derived.Deep.CutBlock
import Derived.Deep.RegionHeld3
import Derived.Laws.Rows
import Derived.Lib.AppendStr
import Derived.ArgAppend
import Derived.Laws.IdiomCopy
import Derived.OrdersHeld
import Derived.Laws.BitsLemmas
import Derived.RowKit
import Derived.Lib.MinMaxS
import Derived.Test.YtecjkpjcmgohmaaStr
import Derived.Test.YtecjkpjcmgohmaaJoin
import Derived.Test.YtecjkpjcmgohmaaWWords
import Derived.Test.YtecjkpjcmgohmaaWLast
import Derived.Test.YtecjkpjcmgohmaaWTab
import Derived.Test.YtecjkpjcmgohmaaWFour
import Derived.Test.YtecjkpjcmgohmaaWQPut
import Derived.Test.YtecjkpjcmgohmaaWApart
import Derived.Test.YtecjkpjcmgohmaaWArr
import Derived.Test.YtecjkpjcmgohmaaWZeros
import Derived.Test.YtecjkpjcmgohmaaWFoot
import Derived.Test.YtecjkpjcmgohmaaWKept
import Derived.Test.YtecjkpjcmgohmaaWShare
import Derived.Test.YtecjkpjcmgohmaaWN
import Derived.Test.YtecjkpjcmgohmaaWFootNe
import Derived.Test.YtecjkpjcmgohmaaWAt
import Derived.Test.YtecjkpjcmgohmaaWEqStruct
import Derived.Test.YtecjkpjcmgohmaaWRepsOne
import Derived.Test.YtecjkpjcmgohmaaWInv
import Derived.Test.YtecjkpjcmgohmaaWInvWords
import Derived.Test.YtecjkpjcmgohmaaWGuard
import Derived.Test.YtecjkpjcmgohmaaWNEv
import Derived.Test.YtecjkpjcmgohmaaWMore
namespace Go.Proofs.Ytecjkpjcmgohmaa.Q
open Go.RowKit Go.Proofs.YtecjkpjcmgohmaaW.PrintWords Go.Proofs.YtecjkpjcmgohmaaW.PrintLast Go.Proofs.YtecjkpjcmgohmaaW.PrintMore
attribute [local go_sem] Go.Proofs.Ytecjkpjcmgohmaa.Str.max2_str Go.Proofs.Ytecjkpjcmgohmaa.Str.min2_str Go.Proofs.Ytecjkpjcmgohmaa.Str.leq_law Go.Proofs.Ytecjkpjcmgohmaa.Str.gtr_law Go.Proofs.Ytecjkpjcmgohmaa.Str.geq_law max2_int min2_int max_two min_two max_three min_three max_four min_four   -- for this text's walks alone
set_option linter.unusedVariables false
set_option linter.unusedSimpArgs false



def errW : Option Int → Value
  | none => .nilIface
  | some c => .iface 0 (.int .i64 c)
theorem errW_none : errW none = .nilIface := rfl
theorem errW_some (c : Int) : errW (some c) = .iface 0 (.int .i64 c) := rfl

theorem info5 : (Try.prog.info? 5).map (fun i => (i.zero, i.size, i.bytes)) = some (some (.int .u8 0), 1, 1) := by kernel_rfl
-- the values' own types

end Go.Proofs.Ytecjkpjcmgohmaa.Q
