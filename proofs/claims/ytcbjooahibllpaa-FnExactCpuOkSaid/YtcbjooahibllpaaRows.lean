/-
  No cell of these rows narrows 'for every input' (looked for: loops, veiled, ifaces, maps, wideKeys, modest, calm, conditions, laid).
  DERIVED. THE GIVEN ROWS OF THIS SEAT. 12 by the template 'for every input the law returns true; each argument reads behind the call as it read before'; 0 by the template 'total and deterministic' (their statements: YtcbjooahibllpaaTotals.lean).
  GIVEN WITH THE SEED: the statements are not yours to turn. If you find one false, say at which input.
  Laid BY PROGRAM, IN A SANDBOX (cutbox-rows.mjs): the forced cells as the released guide's own fill.sh prints them over the translation 5676b329f12caebe… (all of the seat's roots in one cut). By AI agents, Wed Nov 11 2026. No macro, syntax, notation, axiom, sorry.
-/
import Derived.Test.YtcbjooahibllpaaChecked
import GoSem.Claim
import GoSem.ClaimJoined
import GoSem.ClaimMapViews
import Derived.JoinedTies
import Derived.KernelRfl
namespace Go.Proofs.Ytcbjooahibllpaa
/- THE CELL 'sum', in the pinned program and in every row, IS THE sha256 OF THE DUMP (.gsa) THAT YtcbjooahibllpaaProg.lean LOADS. Nothing in Lean hashes anything: it is a label: what it is worth is what the hold of that sum in a sandbox is worth. -/
noncomputable def Try.pinned : Pinned := { name := "ytcbjooahibllpaa", sum := "5676b329f12caebed23c321e943dd8511ef45d6e1b1780a90d2c9804e4726d70", checked := Try.checked }
namespace Rows
def none {H : Type} : Left H := { results := [], args := [] }

/-- 'laws.FnExactConstants': WHATEVER THE INPUT: true; the input reads as it did. -/
def fnExactConstantsSpec : ChangeSpec := { name := "fnExactConstants", fn := fun _ => fun
  | [] => { results := [.lit (.bool true)], args := [] }
  | _ => none }
def fnExactConstantsRow : OpenClaim := { program := "ytcbjooahibllpaa", sum := "5676b329f12caebed23c321e943dd8511ef45d6e1b1780a90d2c9804e4726d70", func := "loop.example/g00231/laws.FnExactConstants", spec := "fnExactConstants", apart := false }
def FnExactConstantsSaid : Prop := fnExactConstantsRow.holds Try.pinned (OpenSpec.ofChange fnExactConstantsSpec)

/-- ITS FALSE NEIGHBOUR: 'it returns false'. Refute it at one input. -/
def fnExactConstantsWrong : ChangeSpec := { name := "fnExactConstants", fn := fun _ => fun
  | [] => { results := [.lit (.bool false)], args := [] }
  | _ => none }
def FnExactConstantsWrongFalsely : Prop := fnExactConstantsRow.holds Try.pinned (OpenSpec.ofChange fnExactConstantsWrong)

/-- 'laws.FnExactAddr': WHATEVER THE INPUT: true; the input reads as it did. -/
def fnExactAddrSpec : ChangeSpec := { name := "fnExactAddr", fn := fun _ => fun
  | [d] => { results := [.lit (.bool true)], args := [d] }
  | _ => none }
def fnExactAddrRow : OpenClaim := { program := "ytcbjooahibllpaa", sum := "5676b329f12caebed23c321e943dd8511ef45d6e1b1780a90d2c9804e4726d70", func := "loop.example/g00231/laws.FnExactAddr", spec := "fnExactAddr", apart := false }
def FnExactAddrSaid : Prop := fnExactAddrRow.holds Try.pinned (OpenSpec.ofChange fnExactAddrSpec)

/-- ITS FALSE NEIGHBOUR: 'it returns false'. Refute it at one input. -/
def fnExactAddrWrong : ChangeSpec := { name := "fnExactAddr", fn := fun _ => fun
  | [d] => { results := [.lit (.bool false)], args := [d] }
  | _ => none }
def FnExactAddrWrongFalsely : Prop := fnExactAddrRow.holds Try.pinned (OpenSpec.ofChange fnExactAddrWrong)

/-- 'laws.FnExactByte': WHATEVER THE INPUT: true; the input reads as it did. -/
def fnExactByteSpec : ChangeSpec := { name := "fnExactByte", fn := fun _ => fun
  | [d] => { results := [.lit (.bool true)], args := [d] }
  | _ => none }
def fnExactByteRow : OpenClaim := { program := "ytcbjooahibllpaa", sum := "5676b329f12caebed23c321e943dd8511ef45d6e1b1780a90d2c9804e4726d70", func := "loop.example/g00231/laws.FnExactByte", spec := "fnExactByte", apart := false }
def FnExactByteSaid : Prop := fnExactByteRow.holds Try.pinned (OpenSpec.ofChange fnExactByteSpec)

/-- ITS FALSE NEIGHBOUR: 'it returns false'. Refute it at one input. -/
def fnExactByteWrong : ChangeSpec := { name := "fnExactByte", fn := fun _ => fun
  | [d] => { results := [.lit (.bool false)], args := [d] }
  | _ => none }
def FnExactByteWrongFalsely : Prop := fnExactByteRow.holds Try.pinned (OpenSpec.ofChange fnExactByteWrong)

/-- 'laws.FnExactJoin': WHATEVER THE INPUT: true; the input reads as it did. -/
def fnExactJoinSpec : ChangeSpec := { name := "fnExactJoin", fn := fun _ => fun
  | [d1, d2] => { results := [.lit (.bool true)], args := [d1, d2] }
  | _ => none }
def fnExactJoinRow : OpenClaim := { program := "ytcbjooahibllpaa", sum := "5676b329f12caebed23c321e943dd8511ef45d6e1b1780a90d2c9804e4726d70", func := "loop.example/g00231/laws.FnExactJoin", spec := "fnExactJoin", apart := false }
def FnExactJoinSaid : Prop := fnExactJoinRow.holds Try.pinned (OpenSpec.ofChange fnExactJoinSpec)

/-- ITS FALSE NEIGHBOUR: 'it returns false'. Refute it at one input. -/
def fnExactJoinWrong : ChangeSpec := { name := "fnExactJoin", fn := fun _ => fun
  | [d1, d2] => { results := [.lit (.bool false)], args := [d1, d2] }
  | _ => none }
def FnExactJoinWrongFalsely : Prop := fnExactJoinRow.holds Try.pinned (OpenSpec.ofChange fnExactJoinWrong)

/-- 'laws.FnExactSigns': WHATEVER THE INPUT: true; the input reads as it did. -/
def fnExactSignsSpec : ChangeSpec := { name := "fnExactSigns", fn := fun _ => fun
  | [d] => { results := [.lit (.bool true)], args := [d] }
  | _ => none }
def fnExactSignsRow : OpenClaim := { program := "ytcbjooahibllpaa", sum := "5676b329f12caebed23c321e943dd8511ef45d6e1b1780a90d2c9804e4726d70", func := "loop.example/g00231/laws.FnExactSigns", spec := "fnExactSigns", apart := false }
def FnExactSignsSaid : Prop := fnExactSignsRow.holds Try.pinned (OpenSpec.ofChange fnExactSignsSpec)

/-- ITS FALSE NEIGHBOUR: 'it returns false'. Refute it at one input. -/
def fnExactSignsWrong : ChangeSpec := { name := "fnExactSigns", fn := fun _ => fun
  | [d] => { results := [.lit (.bool false)], args := [d] }
  | _ => none }
def FnExactSignsWrongFalsely : Prop := fnExactSignsRow.holds Try.pinned (OpenSpec.ofChange fnExactSignsWrong)

/-- 'laws.FnExactOpLen': WHATEVER THE INPUT: true; the input reads as it did. -/
def fnExactOpLenSpec : ChangeSpec := { name := "fnExactOpLen", fn := fun _ => fun
  | [d] => { results := [.lit (.bool true)], args := [d] }
  | _ => none }
def fnExactOpLenRow : OpenClaim := { program := "ytcbjooahibllpaa", sum := "5676b329f12caebed23c321e943dd8511ef45d6e1b1780a90d2c9804e4726d70", func := "loop.example/g00231/laws.FnExactOpLen", spec := "fnExactOpLen", apart := false }
def FnExactOpLenSaid : Prop := fnExactOpLenRow.holds Try.pinned (OpenSpec.ofChange fnExactOpLenSpec)

/-- ITS FALSE NEIGHBOUR: 'it returns false'. Refute it at one input. -/
def fnExactOpLenWrong : ChangeSpec := { name := "fnExactOpLen", fn := fun _ => fun
  | [d] => { results := [.lit (.bool false)], args := [d] }
  | _ => none }
def FnExactOpLenWrongFalsely : Prop := fnExactOpLenRow.holds Try.pinned (OpenSpec.ofChange fnExactOpLenWrong)

/-- 'laws.FnExactOpAccess': WHATEVER THE INPUT: true; the input reads as it did. -/
def fnExactOpAccessSpec : ChangeSpec := { name := "fnExactOpAccess", fn := fun _ => fun
  | [d] => { results := [.lit (.bool true)], args := [d] }
  | _ => none }
def fnExactOpAccessRow : OpenClaim := { program := "ytcbjooahibllpaa", sum := "5676b329f12caebed23c321e943dd8511ef45d6e1b1780a90d2c9804e4726d70", func := "loop.example/g00231/laws.FnExactOpAccess", spec := "fnExactOpAccess", apart := false }
def FnExactOpAccessSaid : Prop := fnExactOpAccessRow.holds Try.pinned (OpenSpec.ofChange fnExactOpAccessSpec)

/-- ITS FALSE NEIGHBOUR: 'it returns false'. Refute it at one input. -/
def fnExactOpAccessWrong : ChangeSpec := { name := "fnExactOpAccess", fn := fun _ => fun
  | [d] => { results := [.lit (.bool false)], args := [d] }
  | _ => none }
def FnExactOpAccessWrongFalsely : Prop := fnExactOpAccessRow.holds Try.pinned (OpenSpec.ofChange fnExactOpAccessWrong)

/-- 'laws.FnExactOpCycles': WHATEVER THE INPUT: true; the input reads as it did. -/
def fnExactOpCyclesSpec : ChangeSpec := { name := "fnExactOpCycles", fn := fun _ => fun
  | [d] => { results := [.lit (.bool true)], args := [d] }
  | _ => none }
def fnExactOpCyclesRow : OpenClaim := { program := "ytcbjooahibllpaa", sum := "5676b329f12caebed23c321e943dd8511ef45d6e1b1780a90d2c9804e4726d70", func := "loop.example/g00231/laws.FnExactOpCycles", spec := "fnExactOpCycles", apart := false }
def FnExactOpCyclesSaid : Prop := fnExactOpCyclesRow.holds Try.pinned (OpenSpec.ofChange fnExactOpCyclesSpec)

/-- ITS FALSE NEIGHBOUR: 'it returns false'. Refute it at one input. -/
def fnExactOpCyclesWrong : ChangeSpec := { name := "fnExactOpCycles", fn := fun _ => fun
  | [d] => { results := [.lit (.bool false)], args := [d] }
  | _ => none }
def FnExactOpCyclesWrongFalsely : Prop := fnExactOpCyclesRow.holds Try.pinned (OpenSpec.ofChange fnExactOpCyclesWrong)

/-- 'laws.FnExactCpuOk': WHATEVER THE INPUT: true; the input reads as it did. -/
def fnExactCpuOkSpec : ChangeSpec := { name := "fnExactCpuOk", fn := fun _ => fun
  | [d] => { results := [.lit (.bool true)], args := [d] }
  | _ => none }
def fnExactCpuOkRow : OpenClaim := { program := "ytcbjooahibllpaa", sum := "5676b329f12caebed23c321e943dd8511ef45d6e1b1780a90d2c9804e4726d70", func := "loop.example/g00231/laws.FnExactCpuOk", spec := "fnExactCpuOk", apart := false }
def FnExactCpuOkSaid : Prop := fnExactCpuOkRow.holds Try.pinned (OpenSpec.ofChange fnExactCpuOkSpec)

/-- ITS FALSE NEIGHBOUR: 'it returns false'. Refute it at one input. -/
def fnExactCpuOkWrong : ChangeSpec := { name := "fnExactCpuOk", fn := fun _ => fun
  | [d] => { results := [.lit (.bool false)], args := [d] }
  | _ => none }
def FnExactCpuOkWrongFalsely : Prop := fnExactCpuOkRow.holds Try.pinned (OpenSpec.ofChange fnExactCpuOkWrong)

/-- 'laws.FnExactAdd8': WHATEVER THE INPUT: true; the input reads as it did. -/
def fnExactAdd8Spec : ChangeSpec := { name := "fnExactAdd8", fn := fun _ => fun
  | [d1, d2, d3] => { results := [.lit (.bool true)], args := [d1, d2, d3] }
  | _ => none }
def fnExactAdd8Row : OpenClaim := { program := "ytcbjooahibllpaa", sum := "5676b329f12caebed23c321e943dd8511ef45d6e1b1780a90d2c9804e4726d70", func := "loop.example/g00231/laws.FnExactAdd8", spec := "fnExactAdd8", apart := false }
def FnExactAdd8Said : Prop := fnExactAdd8Row.holds Try.pinned (OpenSpec.ofChange fnExactAdd8Spec)

/-- ITS FALSE NEIGHBOUR: 'it returns false'. Refute it at one input. -/
def fnExactAdd8Wrong : ChangeSpec := { name := "fnExactAdd8", fn := fun _ => fun
  | [d1, d2, d3] => { results := [.lit (.bool false)], args := [d1, d2, d3] }
  | _ => none }
def FnExactAdd8WrongFalsely : Prop := fnExactAdd8Row.holds Try.pinned (OpenSpec.ofChange fnExactAdd8Wrong)

/-- 'laws.FnExactSub8': WHATEVER THE INPUT: true; the input reads as it did. -/
def fnExactSub8Spec : ChangeSpec := { name := "fnExactSub8", fn := fun _ => fun
  | [d1, d2, d3] => { results := [.lit (.bool true)], args := [d1, d2, d3] }
  | _ => none }
def fnExactSub8Row : OpenClaim := { program := "ytcbjooahibllpaa", sum := "5676b329f12caebed23c321e943dd8511ef45d6e1b1780a90d2c9804e4726d70", func := "loop.example/g00231/laws.FnExactSub8", spec := "fnExactSub8", apart := false }
def FnExactSub8Said : Prop := fnExactSub8Row.holds Try.pinned (OpenSpec.ofChange fnExactSub8Spec)

/-- ITS FALSE NEIGHBOUR: 'it returns false'. Refute it at one input. -/
def fnExactSub8Wrong : ChangeSpec := { name := "fnExactSub8", fn := fun _ => fun
  | [d1, d2, d3] => { results := [.lit (.bool false)], args := [d1, d2, d3] }
  | _ => none }
def FnExactSub8WrongFalsely : Prop := fnExactSub8Row.holds Try.pinned (OpenSpec.ofChange fnExactSub8Wrong)

/-- 'laws.FnExactRegion': WHATEVER THE INPUT: true; the input reads as it did. -/
def fnExactRegionSpec : ChangeSpec := { name := "fnExactRegion", fn := fun _ => fun
  | [d] => { results := [.lit (.bool true)], args := [d] }
  | _ => none }
def fnExactRegionRow : OpenClaim := { program := "ytcbjooahibllpaa", sum := "5676b329f12caebed23c321e943dd8511ef45d6e1b1780a90d2c9804e4726d70", func := "loop.example/g00231/laws.FnExactRegion", spec := "fnExactRegion", apart := false }
def FnExactRegionSaid : Prop := fnExactRegionRow.holds Try.pinned (OpenSpec.ofChange fnExactRegionSpec)

/-- ITS FALSE NEIGHBOUR: 'it returns false'. Refute it at one input. -/
def fnExactRegionWrong : ChangeSpec := { name := "fnExactRegion", fn := fun _ => fun
  | [d] => { results := [.lit (.bool false)], args := [d] }
  | _ => none }
def FnExactRegionWrongFalsely : Prop := fnExactRegionRow.holds Try.pinned (OpenSpec.ofChange fnExactRegionWrong)

/- THE SECOND FORM. 'bulk': how many values and letters a reading holds, each counted each time it is reached (what is shared counts as often as it is met; a slice's spare places count too). A statement '..UptoSaid' is the law's where the arguments, and the package variables that the reading takes, are together of bulk at most 1048576: NARROWER than '..Said'. Prove '..Said' where nothing that the law and all that it calls make is longer than what came in: it says more and counts as full. Else prove '..UptoSaid'. A law counts once. -/
mutual
def uptoBulk {H : Type} : DataW H → Nat
  | .lit (.string bytes) => bytes.length + 1
  | .lit _ => 1
  | .nil => 1
  | .ptr d => uptoBulk d + 1
  | .slice elems spare => uptoBulkAll elems + uptoBulkAll spare + 1
  | .agg parts => uptoBulkAll parts + 1
  | .iface _ d => uptoBulk d + 1
  | .map entries => uptoBulkEntries entries + 1
  | .held _ => 1
def uptoBulkAll {H : Type} : List (DataW H) → Nat
  | [] => 0
  | d :: r => uptoBulk d + uptoBulkAll r
def uptoBulkEntries {H : Type} : List (Lit × DataW H) → Nat
  | [] => 0
  | x :: r => uptoBulkEntry x + uptoBulkEntries r
def uptoBulkEntry {H : Type} : Lit × DataW H → Nat
  | (.string bytes, d) => bytes.length + uptoBulk d + 1
  | (_, d) => uptoBulk d + 1
 end
def uptoSmall : (H : Type) → List (DataW H) → Bool := fun _ ds => decide (uptoBulkAll ds ≤ 1048576)
def OpenSpec.upto (s : _root_.Go.ChangeSpec) : _root_.Go.OpenSpec := { _root_.Go.OpenSpec.ofChange s with cond := some uptoSmall }

/-- 'laws.FnExactConstants', WHERE WHAT IT READS IS OF BULK AT MOST 1048576: true; the input reads as it did. -/
def fnExactConstantsUptoRow : OpenClaim := { program := "ytcbjooahibllpaa", sum := "5676b329f12caebed23c321e943dd8511ef45d6e1b1780a90d2c9804e4726d70", func := "loop.example/g00231/laws.FnExactConstants", spec := "fnExactConstants", apart := false, narrowed := true }
def FnExactConstantsUptoSaid : Prop := fnExactConstantsUptoRow.holds Try.pinned (OpenSpec.upto fnExactConstantsSpec)

/-- 'laws.FnExactAddr', WHERE WHAT IT READS IS OF BULK AT MOST 1048576: true; the input reads as it did. -/
def fnExactAddrUptoRow : OpenClaim := { program := "ytcbjooahibllpaa", sum := "5676b329f12caebed23c321e943dd8511ef45d6e1b1780a90d2c9804e4726d70", func := "loop.example/g00231/laws.FnExactAddr", spec := "fnExactAddr", apart := false, narrowed := true }
def FnExactAddrUptoSaid : Prop := fnExactAddrUptoRow.holds Try.pinned (OpenSpec.upto fnExactAddrSpec)

/-- 'laws.FnExactByte', WHERE WHAT IT READS IS OF BULK AT MOST 1048576: true; the input reads as it did. -/
def fnExactByteUptoRow : OpenClaim := { program := "ytcbjooahibllpaa", sum := "5676b329f12caebed23c321e943dd8511ef45d6e1b1780a90d2c9804e4726d70", func := "loop.example/g00231/laws.FnExactByte", spec := "fnExactByte", apart := false, narrowed := true }
def FnExactByteUptoSaid : Prop := fnExactByteUptoRow.holds Try.pinned (OpenSpec.upto fnExactByteSpec)

/-- 'laws.FnExactJoin', WHERE WHAT IT READS IS OF BULK AT MOST 1048576: true; the input reads as it did. -/
def fnExactJoinUptoRow : OpenClaim := { program := "ytcbjooahibllpaa", sum := "5676b329f12caebed23c321e943dd8511ef45d6e1b1780a90d2c9804e4726d70", func := "loop.example/g00231/laws.FnExactJoin", spec := "fnExactJoin", apart := false, narrowed := true }
def FnExactJoinUptoSaid : Prop := fnExactJoinUptoRow.holds Try.pinned (OpenSpec.upto fnExactJoinSpec)

/-- 'laws.FnExactSigns', WHERE WHAT IT READS IS OF BULK AT MOST 1048576: true; the input reads as it did. -/
def fnExactSignsUptoRow : OpenClaim := { program := "ytcbjooahibllpaa", sum := "5676b329f12caebed23c321e943dd8511ef45d6e1b1780a90d2c9804e4726d70", func := "loop.example/g00231/laws.FnExactSigns", spec := "fnExactSigns", apart := false, narrowed := true }
def FnExactSignsUptoSaid : Prop := fnExactSignsUptoRow.holds Try.pinned (OpenSpec.upto fnExactSignsSpec)

/-- 'laws.FnExactOpLen', WHERE WHAT IT READS IS OF BULK AT MOST 1048576: true; the input reads as it did. -/
def fnExactOpLenUptoRow : OpenClaim := { program := "ytcbjooahibllpaa", sum := "5676b329f12caebed23c321e943dd8511ef45d6e1b1780a90d2c9804e4726d70", func := "loop.example/g00231/laws.FnExactOpLen", spec := "fnExactOpLen", apart := false, narrowed := true }
def FnExactOpLenUptoSaid : Prop := fnExactOpLenUptoRow.holds Try.pinned (OpenSpec.upto fnExactOpLenSpec)

/-- 'laws.FnExactOpAccess', WHERE WHAT IT READS IS OF BULK AT MOST 1048576: true; the input reads as it did. -/
def fnExactOpAccessUptoRow : OpenClaim := { program := "ytcbjooahibllpaa", sum := "5676b329f12caebed23c321e943dd8511ef45d6e1b1780a90d2c9804e4726d70", func := "loop.example/g00231/laws.FnExactOpAccess", spec := "fnExactOpAccess", apart := false, narrowed := true }
def FnExactOpAccessUptoSaid : Prop := fnExactOpAccessUptoRow.holds Try.pinned (OpenSpec.upto fnExactOpAccessSpec)

/-- 'laws.FnExactOpCycles', WHERE WHAT IT READS IS OF BULK AT MOST 1048576: true; the input reads as it did. -/
def fnExactOpCyclesUptoRow : OpenClaim := { program := "ytcbjooahibllpaa", sum := "5676b329f12caebed23c321e943dd8511ef45d6e1b1780a90d2c9804e4726d70", func := "loop.example/g00231/laws.FnExactOpCycles", spec := "fnExactOpCycles", apart := false, narrowed := true }
def FnExactOpCyclesUptoSaid : Prop := fnExactOpCyclesUptoRow.holds Try.pinned (OpenSpec.upto fnExactOpCyclesSpec)

/-- 'laws.FnExactCpuOk', WHERE WHAT IT READS IS OF BULK AT MOST 1048576: true; the input reads as it did. -/
def fnExactCpuOkUptoRow : OpenClaim := { program := "ytcbjooahibllpaa", sum := "5676b329f12caebed23c321e943dd8511ef45d6e1b1780a90d2c9804e4726d70", func := "loop.example/g00231/laws.FnExactCpuOk", spec := "fnExactCpuOk", apart := false, narrowed := true }
def FnExactCpuOkUptoSaid : Prop := fnExactCpuOkUptoRow.holds Try.pinned (OpenSpec.upto fnExactCpuOkSpec)

/-- 'laws.FnExactAdd8', WHERE WHAT IT READS IS OF BULK AT MOST 1048576: true; the input reads as it did. -/
def fnExactAdd8UptoRow : OpenClaim := { program := "ytcbjooahibllpaa", sum := "5676b329f12caebed23c321e943dd8511ef45d6e1b1780a90d2c9804e4726d70", func := "loop.example/g00231/laws.FnExactAdd8", spec := "fnExactAdd8", apart := false, narrowed := true }
def FnExactAdd8UptoSaid : Prop := fnExactAdd8UptoRow.holds Try.pinned (OpenSpec.upto fnExactAdd8Spec)

/-- 'laws.FnExactSub8', WHERE WHAT IT READS IS OF BULK AT MOST 1048576: true; the input reads as it did. -/
def fnExactSub8UptoRow : OpenClaim := { program := "ytcbjooahibllpaa", sum := "5676b329f12caebed23c321e943dd8511ef45d6e1b1780a90d2c9804e4726d70", func := "loop.example/g00231/laws.FnExactSub8", spec := "fnExactSub8", apart := false, narrowed := true }
def FnExactSub8UptoSaid : Prop := fnExactSub8UptoRow.holds Try.pinned (OpenSpec.upto fnExactSub8Spec)

/-- 'laws.FnExactRegion', WHERE WHAT IT READS IS OF BULK AT MOST 1048576: true; the input reads as it did. -/
def fnExactRegionUptoRow : OpenClaim := { program := "ytcbjooahibllpaa", sum := "5676b329f12caebed23c321e943dd8511ef45d6e1b1780a90d2c9804e4726d70", func := "loop.example/g00231/laws.FnExactRegion", spec := "fnExactRegion", apart := false, narrowed := true }
def FnExactRegionUptoSaid : Prop := fnExactRegionUptoRow.holds Try.pinned (OpenSpec.upto fnExactRegionSpec)

end Rows
end Go.Proofs.Ytcbjooahibllpaa
