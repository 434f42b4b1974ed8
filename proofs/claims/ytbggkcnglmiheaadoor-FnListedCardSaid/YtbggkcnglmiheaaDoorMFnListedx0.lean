/- Walks of functions that the law FnListed reaches: each comes to just what its Lean function says. (Begun as the texts that print.sh wrote for this claim; some of them, and those that it does not write, are mine.) No condition. -/
import Derived.Test.YtbggkcnglmiheaaDoorProg
import Derived.Below
import Derived.Deep.Draws
import Derived.Deep.AppendLies
import Derived.Maps.AppendAt
import Derived.OwnWalk
import Derived.Laws.BytesArg
import Derived.Laws.MakeOwn
import Derived.Laws.OwnMore
import Derived.Deep.OwnRows
import Derived.Tactics
import Derived.Lib.ConvBytes
import Derived.Laws.Slices
import Derived.WalkKit
import Derived.KernelRfl
import Derived.RowKit3
import Derived.Deep.LoopGhost
import Derived.Deep.QuietTactic
import Derived.BigQuiet
import Derived.WideLaws
import Derived.Deep.DeepCutAuto
import Derived.Deep.CutBlock
import Derived.Deep.RegionHeld3
import Derived.Laws.Rows
import Derived.Lib.AppendStr
import Derived.ArgAppend
import Derived.Laws.IdiomCopy
import Derived.OrdersHeld
import Derived.Laws.BitsLemmas
import Derived.RowKit
import Derived.Test.YtbggkcnglmiheaaDoorWWords
import Derived.Test.YtbggkcnglmiheaaDoorWLast
import Derived.Test.YtbggkcnglmiheaaDoorWTab
import Derived.Test.YtbggkcnglmiheaaDoorWFour
import Derived.Test.YtbggkcnglmiheaaDoorWQPut
import Derived.Test.YtbggkcnglmiheaaDoorWApart
import Derived.Test.YtbggkcnglmiheaaDoorWArr
import Derived.Test.YtbggkcnglmiheaaDoorWZeros
import Derived.Test.YtbggkcnglmiheaaDoorWFoot
import Derived.Test.YtbggkcnglmiheaaDoorWKept
import Derived.Test.YtbggkcnglmiheaaDoorWShare
import Derived.Test.YtbggkcnglmiheaaDoorWN
import Derived.Test.YtbggkcnglmiheaaDoorWFootNe
import Derived.Test.YtbggkcnglmiheaaDoorWAt
import Derived.Test.YtbggkcnglmiheaaDoorWEqStruct
import Derived.Test.YtbggkcnglmiheaaDoorWRepsOne
import Derived.Test.YtbggkcnglmiheaaDoorWInv
import Derived.Test.YtbggkcnglmiheaaDoorWInvWords
import Derived.Test.YtbggkcnglmiheaaDoorWGuard
import Derived.Test.YtbggkcnglmiheaaDoorWNEv
import Derived.Test.YtbggkcnglmiheaaDoorWMore
import Derived.StillTailTactics
import Derived.Outline
import Derived.Lib.AppendIntMem
import Derived.Lib.AtoiAllCases
import Derived.Lib.SplitLaws
import Derived.Lib.AtoiErrMem
import Derived.Test.YtbggkcnglmiheaaDoorShelfA
namespace Go.Proofs.YtbggkcnglmiheaaDoor.MFnListed
open Go.RowKit Go.Proofs.YtbggkcnglmiheaaDoorW.PrintWords Go.Proofs.YtbggkcnglmiheaaDoorW.PrintLast Go.Proofs.YtbggkcnglmiheaaDoorW.PrintMore
attribute [local go_sem] max2_int min2_int max_two min_two max_three min_three max_four min_four   -- for this text's walks alone
set_option linter.unusedVariables false
set_option linter.unusedSimpArgs false



def errW : Option Int → Value
  | none => .nilIface
  | some c => .iface 84 (.int .i64 c)
theorem errW_none : errW none = .nilIface := rfl
theorem errW_some (c : Int) : errW (some c) = .iface 84 (.int .i64 c) := rfl

theorem info3 : (Tryd.prog.info? 3).map (fun i => (i.zero, i.size, i.bytes)) = some (some (.int .i64 0), 1, 8) := by kernel_rfl
theorem info5 : (Tryd.prog.info? 5).map (fun i => (i.zero, i.size, i.bytes)) = some (some (.int .u8 0), 1, 1) := by kernel_rfl
theorem info9 : (Tryd.prog.info? 9).map (fun i => (i.zero, i.size, i.bytes)) = some (some (.string ⟨#[]⟩), 1, 16) := by kernel_rfl
-- the values' own types

end Go.Proofs.YtbggkcnglmiheaaDoor.MFnListed
