/- Walks of functions that the law FnFlags reaches: each comes to just what its Lean function says. (Begun as the texts that print.sh wrote for this claim; some of them, and those that it does not write, are mine.) No condition. -/
import Derived.Test.YtcdfkemhigmnlaaProg
import Derived.Below
import Derived.Deep.Draws
import Derived.Deep.AppendLies
import Derived.Maps.AppendAt
import Derived.OwnWalk
import Derived.Laws.BytesArg
import Derived.Laws.MakeOwn
import Derived.Laws.OwnMore
import Derived.Deep.OwnRows
import Derived.Tactics
import Derived.Lib.ConvBytes
import Derived.Laws.Slices
import Derived.WalkKit
import Derived.KernelRfl
import Derived.RowKit3
import Derived.Deep.LoopGhost
import Derived.Deep.QuietTactic
import Derived.BigQuiet
import Derived.WideLaws
import Derived.Deep.DeepCutAuto
import Derived.Deep.CutBlock
import Derived.Deep.RegionHeld3
import Derived.Laws.Rows
import Derived.Lib.AppendStr
import Derived.ArgAppend
import Derived.Laws.IdiomCopy
import Derived.OrdersHeld
import Derived.Laws.BitsLemmas
import Derived.RowKit
import Derived.Test.YtcdfkemhigmnlaaWWords
import Derived.Test.YtcdfkemhigmnlaaWLast
import Derived.Test.YtcdfkemhigmnlaaWTab
import Derived.Test.YtcdfkemhigmnlaaWQPut
import Derived.Test.YtcdfkemhigmnlaaWApart
import Derived.Test.YtcdfkemhigmnlaaWArr
import Derived.Test.YtcdfkemhigmnlaaWZeros
import Derived.Test.YtcdfkemhigmnlaaWFoot
import Derived.Test.YtcdfkemhigmnlaaWKept
import Derived.Test.YtcdfkemhigmnlaaWShare
import Derived.Test.YtcdfkemhigmnlaaWN
import Derived.Test.YtcdfkemhigmnlaaWFootNe
import Derived.Test.YtcdfkemhigmnlaaWRepsOne
import Derived.Test.YtcdfkemhigmnlaaWNEv
import Derived.Test.YtcdfkemhigmnlaaWMore
import Derived.StillTailTactics
import Derived.Outline
namespace Go.Proofs.Ytcdfkemhigmnlaa.MFnFlags
open Go.RowKit Go.Proofs.YtcdfkemhigmnlaaW.PrintWords Go.Proofs.YtcdfkemhigmnlaaW.PrintLast Go.Proofs.YtcdfkemhigmnlaaW.PrintMore
attribute [local go_sem] max2_int min2_int max_two min_two max_three min_three max_four min_four   -- for this text's walks alone
set_option linter.unusedVariables false
set_option linter.unusedSimpArgs false



def errW : Option Int → Value
  | none => .nilIface
  | some c => .iface 0 (.int .i64 c)
theorem errW_none : errW none = .nilIface := rfl
theorem errW_some (c : Int) : errW (some c) = .iface 0 (.int .i64 c) := rfl

theorem info3 : (Try.prog.info? 3).map (fun i => (i.zero, i.size, i.bytes)) = some (some (.int .i64 0), 1, 8) := by kernel_rfl
-- the values' own types

end Go.Proofs.Ytcdfkemhigmnlaa.MFnFlags
