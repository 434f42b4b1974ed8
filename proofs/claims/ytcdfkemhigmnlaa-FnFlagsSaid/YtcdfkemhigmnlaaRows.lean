/-
  No cell of these rows narrows 'for every input' (looked for: loops, veiled, ifaces, maps, wideKeys, modest, calm, conditions, laid).
  DERIVED. THE GIVEN ROWS OF THIS SEAT. 12 by the template 'for every input the law returns true; each argument reads behind the call as it read before'; 0 by the template 'total and deterministic' (their statements: YtcdfkemhigmnlaaTotals.lean).
  GIVEN WITH THE SEED: the statements are not yours to turn. If you find one false, say at which input.
  Laid BY PROGRAM, IN A SANDBOX (cutbox-rows.mjs): the forced cells as the released guide's own fill.sh prints them over the translation 4a21aec231e61bf1… (all of the seat's roots in one cut). By AI agents, Wed Nov 11 2026. No macro, syntax, notation, axiom, sorry.
-/
import Derived.Test.YtcdfkemhigmnlaaChecked
import GoSem.Claim
import GoSem.ClaimJoined
import GoSem.ClaimMapViews
import Derived.JoinedTies
import Derived.KernelRfl
namespace Go.Proofs.Ytcdfkemhigmnlaa
/- THE CELL 'sum', in the pinned program and in every row, IS THE sha256 OF THE DUMP (.gsa) THAT YtcdfkemhigmnlaaProg.lean LOADS. Nothing in Lean hashes anything: it is a label: what it is worth is what the hold of that sum in a sandbox is worth. -/
noncomputable def Try.pinned : Pinned := { name := "ytcdfkemhigmnlaa", sum := "4a21aec231e61bf179a69feee349c627e63eaa89b94cc195ffbec57dd3304cb4", checked := Try.checked }
namespace Rows
def none {H : Type} : Left H := { results := [], args := [] }

/-- 'laws.FnExactOpName': WHATEVER THE INPUT: true; the input reads as it did. -/
def fnExactOpNameSpec : ChangeSpec := { name := "fnExactOpName", fn := fun _ => fun
  | [d] => { results := [.lit (.bool true)], args := [d] }
  | _ => none }
def fnExactOpNameRow : OpenClaim := { program := "ytcdfkemhigmnlaa", sum := "4a21aec231e61bf179a69feee349c627e63eaa89b94cc195ffbec57dd3304cb4", func := "loop.example/g00231/laws.FnExactOpName", spec := "fnExactOpName", apart := false }
def FnExactOpNameSaid : Prop := fnExactOpNameRow.holds Try.pinned (OpenSpec.ofChange fnExactOpNameSpec)

/-- ITS FALSE NEIGHBOUR: 'it returns false'. Refute it at one input. -/
def fnExactOpNameWrong : ChangeSpec := { name := "fnExactOpName", fn := fun _ => fun
  | [d] => { results := [.lit (.bool false)], args := [d] }
  | _ => none }
def FnExactOpNameWrongFalsely : Prop := fnExactOpNameRow.holds Try.pinned (OpenSpec.ofChange fnExactOpNameWrong)

/-- 'laws.FnExactOpOf': WHATEVER THE INPUT: true; the input reads as it did. -/
def fnExactOpOfSpec : ChangeSpec := { name := "fnExactOpOf", fn := fun _ => fun
  | [d] => { results := [.lit (.bool true)], args := [d] }
  | _ => none }
def fnExactOpOfRow : OpenClaim := { program := "ytcdfkemhigmnlaa", sum := "4a21aec231e61bf179a69feee349c627e63eaa89b94cc195ffbec57dd3304cb4", func := "loop.example/g00231/laws.FnExactOpOf", spec := "fnExactOpOf", apart := false }
def FnExactOpOfSaid : Prop := fnExactOpOfRow.holds Try.pinned (OpenSpec.ofChange fnExactOpOfSpec)

/-- ITS FALSE NEIGHBOUR: 'it returns false'. Refute it at one input. -/
def fnExactOpOfWrong : ChangeSpec := { name := "fnExactOpOf", fn := fun _ => fun
  | [d] => { results := [.lit (.bool false)], args := [d] }
  | _ => none }
def FnExactOpOfWrongFalsely : Prop := fnExactOpOfRow.holds Try.pinned (OpenSpec.ofChange fnExactOpOfWrong)

/-- 'laws.FnExactFlags': WHATEVER THE INPUT: true; the input reads as it did. -/
def fnExactFlagsSpec : ChangeSpec := { name := "fnExactFlags", fn := fun _ => fun
  | [d] => { results := [.lit (.bool true)], args := [d] }
  | _ => none }
def fnExactFlagsRow : OpenClaim := { program := "ytcdfkemhigmnlaa", sum := "4a21aec231e61bf179a69feee349c627e63eaa89b94cc195ffbec57dd3304cb4", func := "loop.example/g00231/laws.FnExactFlags", spec := "fnExactFlags", apart := false }
def FnExactFlagsSaid : Prop := fnExactFlagsRow.holds Try.pinned (OpenSpec.ofChange fnExactFlagsSpec)

/-- ITS FALSE NEIGHBOUR: 'it returns false'. Refute it at one input. -/
def fnExactFlagsWrong : ChangeSpec := { name := "fnExactFlags", fn := fun _ => fun
  | [d] => { results := [.lit (.bool false)], args := [d] }
  | _ => none }
def FnExactFlagsWrongFalsely : Prop := fnExactFlagsRow.holds Try.pinned (OpenSpec.ofChange fnExactFlagsWrong)

/-- 'laws.FnExactMemNew': WHATEVER THE INPUT: true; the input reads as it did. -/
def fnExactMemNewSpec : ChangeSpec := { name := "fnExactMemNew", fn := fun _ => fun
  | [] => { results := [.lit (.bool true)], args := [] }
  | _ => none }
def fnExactMemNewRow : OpenClaim := { program := "ytcdfkemhigmnlaa", sum := "4a21aec231e61bf179a69feee349c627e63eaa89b94cc195ffbec57dd3304cb4", func := "loop.example/g00231/laws.FnExactMemNew", spec := "fnExactMemNew", apart := false }
def FnExactMemNewSaid : Prop := fnExactMemNewRow.holds Try.pinned (OpenSpec.ofChange fnExactMemNewSpec)

/-- ITS FALSE NEIGHBOUR: 'it returns false'. Refute it at one input. -/
def fnExactMemNewWrong : ChangeSpec := { name := "fnExactMemNew", fn := fun _ => fun
  | [] => { results := [.lit (.bool false)], args := [] }
  | _ => none }
def FnExactMemNewWrongFalsely : Prop := fnExactMemNewRow.holds Try.pinned (OpenSpec.ofChange fnExactMemNewWrong)

/-- 'laws.FnExactWithFlags': WHATEVER THE INPUT: true; the input reads as it did. -/
def fnExactWithFlagsSpec : ChangeSpec := { name := "fnExactWithFlags", fn := fun _ => fun
  | [d1, d2] => { results := [.lit (.bool true)], args := [d1, d2] }
  | _ => none }
def fnExactWithFlagsRow : OpenClaim := { program := "ytcdfkemhigmnlaa", sum := "4a21aec231e61bf179a69feee349c627e63eaa89b94cc195ffbec57dd3304cb4", func := "loop.example/g00231/laws.FnExactWithFlags", spec := "fnExactWithFlags", apart := false }
def FnExactWithFlagsSaid : Prop := fnExactWithFlagsRow.holds Try.pinned (OpenSpec.ofChange fnExactWithFlagsSpec)

/-- ITS FALSE NEIGHBOUR: 'it returns false'. Refute it at one input. -/
def fnExactWithFlagsWrong : ChangeSpec := { name := "fnExactWithFlags", fn := fun _ => fun
  | [d1, d2] => { results := [.lit (.bool false)], args := [d1, d2] }
  | _ => none }
def FnExactWithFlagsWrongFalsely : Prop := fnExactWithFlagsRow.holds Try.pinned (OpenSpec.ofChange fnExactWithFlagsWrong)

/-- 'laws.FnExactSetA': WHATEVER THE INPUT: true; the input reads as it did. -/
def fnExactSetASpec : ChangeSpec := { name := "fnExactSetA", fn := fun _ => fun
  | [d1, d2] => { results := [.lit (.bool true)], args := [d1, d2] }
  | _ => none }
def fnExactSetARow : OpenClaim := { program := "ytcdfkemhigmnlaa", sum := "4a21aec231e61bf179a69feee349c627e63eaa89b94cc195ffbec57dd3304cb4", func := "loop.example/g00231/laws.FnExactSetA", spec := "fnExactSetA", apart := false }
def FnExactSetASaid : Prop := fnExactSetARow.holds Try.pinned (OpenSpec.ofChange fnExactSetASpec)

/-- ITS FALSE NEIGHBOUR: 'it returns false'. Refute it at one input. -/
def fnExactSetAWrong : ChangeSpec := { name := "fnExactSetA", fn := fun _ => fun
  | [d1, d2] => { results := [.lit (.bool false)], args := [d1, d2] }
  | _ => none }
def FnExactSetAWrongFalsely : Prop := fnExactSetARow.holds Try.pinned (OpenSpec.ofChange fnExactSetAWrong)

/-- 'laws.FnExactSetX': WHATEVER THE INPUT: true; the input reads as it did. -/
def fnExactSetXSpec : ChangeSpec := { name := "fnExactSetX", fn := fun _ => fun
  | [d1, d2] => { results := [.lit (.bool true)], args := [d1, d2] }
  | _ => none }
def fnExactSetXRow : OpenClaim := { program := "ytcdfkemhigmnlaa", sum := "4a21aec231e61bf179a69feee349c627e63eaa89b94cc195ffbec57dd3304cb4", func := "loop.example/g00231/laws.FnExactSetX", spec := "fnExactSetX", apart := false }
def FnExactSetXSaid : Prop := fnExactSetXRow.holds Try.pinned (OpenSpec.ofChange fnExactSetXSpec)

/-- ITS FALSE NEIGHBOUR: 'it returns false'. Refute it at one input. -/
def fnExactSetXWrong : ChangeSpec := { name := "fnExactSetX", fn := fun _ => fun
  | [d1, d2] => { results := [.lit (.bool false)], args := [d1, d2] }
  | _ => none }
def FnExactSetXWrongFalsely : Prop := fnExactSetXRow.holds Try.pinned (OpenSpec.ofChange fnExactSetXWrong)

/-- 'laws.FnExactAccess': WHATEVER THE INPUT: true; the input reads as it did. -/
def fnExactAccessSpec : ChangeSpec := { name := "fnExactAccess", fn := fun _ => fun
  | [d1, d2] => { results := [.lit (.bool true)], args := [d1, d2] }
  | _ => none }
def fnExactAccessRow : OpenClaim := { program := "ytcdfkemhigmnlaa", sum := "4a21aec231e61bf179a69feee349c627e63eaa89b94cc195ffbec57dd3304cb4", func := "loop.example/g00231/laws.FnExactAccess", spec := "fnExactAccess", apart := false }
def FnExactAccessSaid : Prop := fnExactAccessRow.holds Try.pinned (OpenSpec.ofChange fnExactAccessSpec)

/-- ITS FALSE NEIGHBOUR: 'it returns false'. Refute it at one input. -/
def fnExactAccessWrong : ChangeSpec := { name := "fnExactAccess", fn := fun _ => fun
  | [d1, d2] => { results := [.lit (.bool false)], args := [d1, d2] }
  | _ => none }
def FnExactAccessWrongFalsely : Prop := fnExactAccessRow.holds Try.pinned (OpenSpec.ofChange fnExactAccessWrong)

/-- 'laws.FnExactPpuNew': WHATEVER THE INPUT: true; the input reads as it did. -/
def fnExactPpuNewSpec : ChangeSpec := { name := "fnExactPpuNew", fn := fun _ => fun
  | [] => { results := [.lit (.bool true)], args := [] }
  | _ => none }
def fnExactPpuNewRow : OpenClaim := { program := "ytcdfkemhigmnlaa", sum := "4a21aec231e61bf179a69feee349c627e63eaa89b94cc195ffbec57dd3304cb4", func := "loop.example/g00231/laws.FnExactPpuNew", spec := "fnExactPpuNew", apart := false }
def FnExactPpuNewSaid : Prop := fnExactPpuNewRow.holds Try.pinned (OpenSpec.ofChange fnExactPpuNewSpec)

/-- ITS FALSE NEIGHBOUR: 'it returns false'. Refute it at one input. -/
def fnExactPpuNewWrong : ChangeSpec := { name := "fnExactPpuNew", fn := fun _ => fun
  | [] => { results := [.lit (.bool false)], args := [] }
  | _ => none }
def FnExactPpuNewWrongFalsely : Prop := fnExactPpuNewRow.holds Try.pinned (OpenSpec.ofChange fnExactPpuNewWrong)

/-- 'laws.FnBytes': WHATEVER THE INPUT: true; the input reads as it did. -/
def fnBytesSpec : ChangeSpec := { name := "fnBytes", fn := fun _ => fun
  | [d] => { results := [.lit (.bool true)], args := [d] }
  | _ => none }
def fnBytesRow : OpenClaim := { program := "ytcdfkemhigmnlaa", sum := "4a21aec231e61bf179a69feee349c627e63eaa89b94cc195ffbec57dd3304cb4", func := "loop.example/g00231/laws.FnBytes", spec := "fnBytes", apart := false }
def FnBytesSaid : Prop := fnBytesRow.holds Try.pinned (OpenSpec.ofChange fnBytesSpec)

/-- ITS FALSE NEIGHBOUR: 'it returns false'. Refute it at one input. -/
def fnBytesWrong : ChangeSpec := { name := "fnBytes", fn := fun _ => fun
  | [d] => { results := [.lit (.bool false)], args := [d] }
  | _ => none }
def FnBytesWrongFalsely : Prop := fnBytesRow.holds Try.pinned (OpenSpec.ofChange fnBytesWrong)

/-- 'laws.FnFlags': WHATEVER THE INPUT: true; the input reads as it did. -/
def fnFlagsSpec : ChangeSpec := { name := "fnFlags", fn := fun _ => fun
  | [d] => { results := [.lit (.bool true)], args := [d] }
  | _ => none }
def fnFlagsRow : OpenClaim := { program := "ytcdfkemhigmnlaa", sum := "4a21aec231e61bf179a69feee349c627e63eaa89b94cc195ffbec57dd3304cb4", func := "loop.example/g00231/laws.FnFlags", spec := "fnFlags", apart := false }
def FnFlagsSaid : Prop := fnFlagsRow.holds Try.pinned (OpenSpec.ofChange fnFlagsSpec)

/-- ITS FALSE NEIGHBOUR: 'it returns false'. Refute it at one input. -/
def fnFlagsWrong : ChangeSpec := { name := "fnFlags", fn := fun _ => fun
  | [d] => { results := [.lit (.bool false)], args := [d] }
  | _ => none }
def FnFlagsWrongFalsely : Prop := fnFlagsRow.holds Try.pinned (OpenSpec.ofChange fnFlagsWrong)

/-- 'laws.FnOps': WHATEVER THE INPUT: true; the input reads as it did. -/
def fnOpsSpec : ChangeSpec := { name := "fnOps", fn := fun _ => fun
  | [d] => { results := [.lit (.bool true)], args := [d] }
  | _ => none }
def fnOpsRow : OpenClaim := { program := "ytcdfkemhigmnlaa", sum := "4a21aec231e61bf179a69feee349c627e63eaa89b94cc195ffbec57dd3304cb4", func := "loop.example/g00231/laws.FnOps", spec := "fnOps", apart := false }
def FnOpsSaid : Prop := fnOpsRow.holds Try.pinned (OpenSpec.ofChange fnOpsSpec)

/-- ITS FALSE NEIGHBOUR: 'it returns false'. Refute it at one input. -/
def fnOpsWrong : ChangeSpec := { name := "fnOps", fn := fun _ => fun
  | [d] => { results := [.lit (.bool false)], args := [d] }
  | _ => none }
def FnOpsWrongFalsely : Prop := fnOpsRow.holds Try.pinned (OpenSpec.ofChange fnOpsWrong)

/- THE SECOND FORM. 'bulk': how many values and letters a reading holds, each counted each time it is reached (what is shared counts as often as it is met; a slice's spare places count too). A statement '..UptoSaid' is the law's where the arguments, and the package variables that the reading takes, are together of bulk at most 1048576: NARROWER than '..Said'. Prove '..Said' where nothing that the law and all that it calls make is longer than what came in: it says more and counts as full. Else prove '..UptoSaid'. A law counts once. -/
mutual
def uptoBulk {H : Type} : DataW H → Nat
  | .lit (.string bytes) => bytes.length + 1
  | .lit _ => 1
  | .nil => 1
  | .ptr d => uptoBulk d + 1
  | .slice elems spare => uptoBulkAll elems + uptoBulkAll spare + 1
  | .agg parts => uptoBulkAll parts + 1
  | .iface _ d => uptoBulk d + 1
  | .map entries => uptoBulkEntries entries + 1
  | .held _ => 1
def uptoBulkAll {H : Type} : List (DataW H) → Nat
  | [] => 0
  | d :: r => uptoBulk d + uptoBulkAll r
def uptoBulkEntries {H : Type} : List (Lit × DataW H) → Nat
  | [] => 0
  | x :: r => uptoBulkEntry x + uptoBulkEntries r
def uptoBulkEntry {H : Type} : Lit × DataW H → Nat
  | (.string bytes, d) => bytes.length + uptoBulk d + 1
  | (_, d) => uptoBulk d + 1
 end
def uptoSmall : (H : Type) → List (DataW H) → Bool := fun _ ds => decide (uptoBulkAll ds ≤ 1048576)
def OpenSpec.upto (s : _root_.Go.ChangeSpec) : _root_.Go.OpenSpec := { _root_.Go.OpenSpec.ofChange s with cond := some uptoSmall }

/-- 'laws.FnExactOpName', WHERE WHAT IT READS IS OF BULK AT MOST 1048576: true; the input reads as it did. -/
def fnExactOpNameUptoRow : OpenClaim := { program := "ytcdfkemhigmnlaa", sum := "4a21aec231e61bf179a69feee349c627e63eaa89b94cc195ffbec57dd3304cb4", func := "loop.example/g00231/laws.FnExactOpName", spec := "fnExactOpName", apart := false, narrowed := true }
def FnExactOpNameUptoSaid : Prop := fnExactOpNameUptoRow.holds Try.pinned (OpenSpec.upto fnExactOpNameSpec)

/-- 'laws.FnExactOpOf', WHERE WHAT IT READS IS OF BULK AT MOST 1048576: true; the input reads as it did. -/
def fnExactOpOfUptoRow : OpenClaim := { program := "ytcdfkemhigmnlaa", sum := "4a21aec231e61bf179a69feee349c627e63eaa89b94cc195ffbec57dd3304cb4", func := "loop.example/g00231/laws.FnExactOpOf", spec := "fnExactOpOf", apart := false, narrowed := true }
def FnExactOpOfUptoSaid : Prop := fnExactOpOfUptoRow.holds Try.pinned (OpenSpec.upto fnExactOpOfSpec)

/-- 'laws.FnExactFlags', WHERE WHAT IT READS IS OF BULK AT MOST 1048576: true; the input reads as it did. -/
def fnExactFlagsUptoRow : OpenClaim := { program := "ytcdfkemhigmnlaa", sum := "4a21aec231e61bf179a69feee349c627e63eaa89b94cc195ffbec57dd3304cb4", func := "loop.example/g00231/laws.FnExactFlags", spec := "fnExactFlags", apart := false, narrowed := true }
def FnExactFlagsUptoSaid : Prop := fnExactFlagsUptoRow.holds Try.pinned (OpenSpec.upto fnExactFlagsSpec)

/-- 'laws.FnExactMemNew', WHERE WHAT IT READS IS OF BULK AT MOST 1048576: true; the input reads as it did. -/
def fnExactMemNewUptoRow : OpenClaim := { program := "ytcdfkemhigmnlaa", sum := "4a21aec231e61bf179a69feee349c627e63eaa89b94cc195ffbec57dd3304cb4", func := "loop.example/g00231/laws.FnExactMemNew", spec := "fnExactMemNew", apart := false, narrowed := true }
def FnExactMemNewUptoSaid : Prop := fnExactMemNewUptoRow.holds Try.pinned (OpenSpec.upto fnExactMemNewSpec)

/-- 'laws.FnExactWithFlags', WHERE WHAT IT READS IS OF BULK AT MOST 1048576: true; the input reads as it did. -/
def fnExactWithFlagsUptoRow : OpenClaim := { program := "ytcdfkemhigmnlaa", sum := "4a21aec231e61bf179a69feee349c627e63eaa89b94cc195ffbec57dd3304cb4", func := "loop.example/g00231/laws.FnExactWithFlags", spec := "fnExactWithFlags", apart := false, narrowed := true }
def FnExactWithFlagsUptoSaid : Prop := fnExactWithFlagsUptoRow.holds Try.pinned (OpenSpec.upto fnExactWithFlagsSpec)

/-- 'laws.FnExactSetA', WHERE WHAT IT READS IS OF BULK AT MOST 1048576: true; the input reads as it did. -/
def fnExactSetAUptoRow : OpenClaim := { program := "ytcdfkemhigmnlaa", sum := "4a21aec231e61bf179a69feee349c627e63eaa89b94cc195ffbec57dd3304cb4", func := "loop.example/g00231/laws.FnExactSetA", spec := "fnExactSetA", apart := false, narrowed := true }
def FnExactSetAUptoSaid : Prop := fnExactSetAUptoRow.holds Try.pinned (OpenSpec.upto fnExactSetASpec)

/-- 'laws.FnExactSetX', WHERE WHAT IT READS IS OF BULK AT MOST 1048576: true; the input reads as it did. -/
def fnExactSetXUptoRow : OpenClaim := { program := "ytcdfkemhigmnlaa", sum := "4a21aec231e61bf179a69feee349c627e63eaa89b94cc195ffbec57dd3304cb4", func := "loop.example/g00231/laws.FnExactSetX", spec := "fnExactSetX", apart := false, narrowed := true }
def FnExactSetXUptoSaid : Prop := fnExactSetXUptoRow.holds Try.pinned (OpenSpec.upto fnExactSetXSpec)

/-- 'laws.FnExactAccess', WHERE WHAT IT READS IS OF BULK AT MOST 1048576: true; the input reads as it did. -/
def fnExactAccessUptoRow : OpenClaim := { program := "ytcdfkemhigmnlaa", sum := "4a21aec231e61bf179a69feee349c627e63eaa89b94cc195ffbec57dd3304cb4", func := "loop.example/g00231/laws.FnExactAccess", spec := "fnExactAccess", apart := false, narrowed := true }
def FnExactAccessUptoSaid : Prop := fnExactAccessUptoRow.holds Try.pinned (OpenSpec.upto fnExactAccessSpec)

/-- 'laws.FnExactPpuNew', WHERE WHAT IT READS IS OF BULK AT MOST 1048576: true; the input reads as it did. -/
def fnExactPpuNewUptoRow : OpenClaim := { program := "ytcdfkemhigmnlaa", sum := "4a21aec231e61bf179a69feee349c627e63eaa89b94cc195ffbec57dd3304cb4", func := "loop.example/g00231/laws.FnExactPpuNew", spec := "fnExactPpuNew", apart := false, narrowed := true }
def FnExactPpuNewUptoSaid : Prop := fnExactPpuNewUptoRow.holds Try.pinned (OpenSpec.upto fnExactPpuNewSpec)

/-- 'laws.FnBytes', WHERE WHAT IT READS IS OF BULK AT MOST 1048576: true; the input reads as it did. -/
def fnBytesUptoRow : OpenClaim := { program := "ytcdfkemhigmnlaa", sum := "4a21aec231e61bf179a69feee349c627e63eaa89b94cc195ffbec57dd3304cb4", func := "loop.example/g00231/laws.FnBytes", spec := "fnBytes", apart := false, narrowed := true }
def FnBytesUptoSaid : Prop := fnBytesUptoRow.holds Try.pinned (OpenSpec.upto fnBytesSpec)

/-- 'laws.FnFlags', WHERE WHAT IT READS IS OF BULK AT MOST 1048576: true; the input reads as it did. -/
def fnFlagsUptoRow : OpenClaim := { program := "ytcdfkemhigmnlaa", sum := "4a21aec231e61bf179a69feee349c627e63eaa89b94cc195ffbec57dd3304cb4", func := "loop.example/g00231/laws.FnFlags", spec := "fnFlags", apart := false, narrowed := true }
def FnFlagsUptoSaid : Prop := fnFlagsUptoRow.holds Try.pinned (OpenSpec.upto fnFlagsSpec)

/-- 'laws.FnOps', WHERE WHAT IT READS IS OF BULK AT MOST 1048576: true; the input reads as it did. -/
def fnOpsUptoRow : OpenClaim := { program := "ytcdfkemhigmnlaa", sum := "4a21aec231e61bf179a69feee349c627e63eaa89b94cc195ffbec57dd3304cb4", func := "loop.example/g00231/laws.FnOps", spec := "fnOps", apart := false, narrowed := true }
def FnOpsUptoSaid : Prop := fnOpsUptoRow.holds Try.pinned (OpenSpec.upto fnOpsSpec)

end Rows
end Go.Proofs.Ytcdfkemhigmnlaa
