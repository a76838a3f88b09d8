/- BatchAlike: a part of the walk of that statement. No conditions. -/
import Derived.Test.YtfmjaaekbmhmkaaProg
import Derived.Below
import Derived.Deep.Draws
import Derived.Deep.AppendLies
import Derived.Maps.AppendAt
import Derived.OwnWalk
import Derived.Laws.BytesArg
import Derived.Laws.MakeOwn
import Derived.Laws.OwnMore
import Derived.Deep.OwnRows
import Derived.Tactics
import Derived.Lib.ConvBytes
import Derived.Laws.Slices
import Derived.WalkKit
import Derived.KernelRfl
import Derived.RowKit3
import Derived.Deep.LoopGhost
import Derived.Deep.QuietTactic
import Derived.BigQuiet
import Derived.WideLaws
import Derived.Deep.DeepCutAuto
import Derived.Deep.CutBlock
import Derived.Deep.RegionHeld3
import Derived.Laws.Rows
import Derived.Lib.AppendStr
import Derived.ArgAppend
import Derived.Laws.IdiomCopy
import Derived.OrdersHeld
import Derived.Laws.BitsLemmas
import Derived.RowKit
import Derived.Test.YtfmjaaekbmhmkaaWWords
import Derived.Test.YtfmjaaekbmhmkaaWLast
import Derived.Test.YtfmjaaekbmhmkaaWTab
import Derived.Test.YtfmjaaekbmhmkaaWFour
import Derived.Test.YtfmjaaekbmhmkaaWQPut
import Derived.Test.YtfmjaaekbmhmkaaWApart
import Derived.Test.YtfmjaaekbmhmkaaWArr
import Derived.Test.YtfmjaaekbmhmkaaWZeros
import Derived.Test.YtfmjaaekbmhmkaaWFoot
import Derived.Test.YtfmjaaekbmhmkaaWKept
import Derived.Test.YtfmjaaekbmhmkaaWShare
import Derived.Test.YtfmjaaekbmhmkaaWN
import Derived.Test.YtfmjaaekbmhmkaaWFootNe
import Derived.Test.YtfmjaaekbmhmkaaWAt
import Derived.Test.YtfmjaaekbmhmkaaWEqStruct
import Derived.Test.YtfmjaaekbmhmkaaWRepsOne
import Derived.Test.YtfmjaaekbmhmkaaWInv
import Derived.Test.YtfmjaaekbmhmkaaWInvWords
import Derived.Test.YtfmjaaekbmhmkaaWGuard
import Derived.Test.YtfmjaaekbmhmkaaWNEv
import Derived.Test.YtfmjaaekbmhmkaaWMore
namespace Go.Proofs.Ytfmjaaekbmhmkaa.QAlike
open Go.RowKit Go.Proofs.YtfmjaaekbmhmkaaW.PrintWords Go.Proofs.YtfmjaaekbmhmkaaW.PrintLast Go.Proofs.YtfmjaaekbmhmkaaW.PrintMore
attribute [local go_sem] max2_int min2_int max_two min_two max_three min_three max_four min_four   -- for this text's walks alone
set_option linter.unusedVariables false
set_option linter.unusedSimpArgs false



def errW : Option Int → Value
  | none => .nilIface
  | some c => .iface 0 (.int .i64 c)
theorem errW_none : errW none = .nilIface := rfl
theorem errW_some (c : Int) : errW (some c) = .iface 0 (.int .i64 c) := rfl

theorem info72 : (Try.prog.info? 72).map (fun i => (i.zero, i.size, i.bytes)) = some (some (.int .u64 0), 1, 8) := by kernel_rfl
-- the values' own types

end Go.Proofs.Ytfmjaaekbmhmkaa.QAlike
