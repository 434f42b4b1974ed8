/-
  No cell of these rows narrows 'for every input' (looked for: loops, veiled, ifaces, maps, wideKeys, modest, calm, conditions, laid).
  DERIVED. THE GIVEN ROWS OF THIS SEAT. 12 by the template 'for every input the law returns true; each argument reads behind the call as it read before'; 0 by the template 'total and deterministic' (their statements: YtmiaocoffmobcaaTotals.lean).
  GIVEN WITH THE SEED: the statements are not yours to turn. If you find one false, say at which input.
  Laid BY PROGRAM, IN A SANDBOX (cutbox-rows.mjs): the forced cells as the released guide's own fill.sh prints them over the translation 372d501fa9d6a803… (all of the seat's roots in one cut). By AI agents, Wed Nov 11 2026. No macro, syntax, notation, axiom, sorry.
-/
import Derived.Test.YtmiaocoffmobcaaChecked
import GoSem.Claim
import GoSem.ClaimJoined
import GoSem.ClaimMapViews
import Derived.JoinedTies
import Derived.KernelRfl
namespace Go.Proofs.Ytmiaocoffmobcaa
/- THE CELL 'sum', in the pinned program and in every row, IS THE sha256 OF THE DUMP (.gsa) THAT YtmiaocoffmobcaaProg.lean LOADS. Nothing in Lean hashes anything: it is a label: what it is worth is what the hold of that sum in a sandbox is worth. -/
noncomputable def Try.pinned : Pinned := { name := "ytmiaocoffmobcaa", sum := "372d501fa9d6a8031e897e75ff0b62cfe3feb48bf6f53b41cd48e21dd0bfe054", checked := Try.checked }
namespace Rows
def none {H : Type} : Left H := { results := [], args := [] }

/-- 'laws.FnExactImageOk': WHATEVER THE INPUT: true; the input reads as it did. -/
def fnExactImageOkSpec : ChangeSpec := { name := "fnExactImageOk", fn := fun _ => fun
  | [d] => { results := [.lit (.bool true)], args := [d] }
  | _ => none }
def fnExactImageOkRow : OpenClaim := { program := "ytmiaocoffmobcaa", sum := "372d501fa9d6a8031e897e75ff0b62cfe3feb48bf6f53b41cd48e21dd0bfe054", func := "loop.example/g00231/laws.FnExactImageOk", spec := "fnExactImageOk", apart := false }
def FnExactImageOkSaid : Prop := fnExactImageOkRow.holds Try.pinned (OpenSpec.ofChange fnExactImageOkSpec)

/-- ITS FALSE NEIGHBOUR: 'it returns false'. Refute it at one input. -/
def fnExactImageOkWrong : ChangeSpec := { name := "fnExactImageOk", fn := fun _ => fun
  | [d] => { results := [.lit (.bool false)], args := [d] }
  | _ => none }
def FnExactImageOkWrongFalsely : Prop := fnExactImageOkRow.holds Try.pinned (OpenSpec.ofChange fnExactImageOkWrong)

/-- 'laws.FnExactPush': WHATEVER THE INPUT: true; the input reads as it did. -/
def fnExactPushSpec : ChangeSpec := { name := "fnExactPush", fn := fun _ => fun
  | [d1, d2, d3] => { results := [.lit (.bool true)], args := [d1, d2, d3] }
  | _ => none }
def fnExactPushRow : OpenClaim := { program := "ytmiaocoffmobcaa", sum := "372d501fa9d6a8031e897e75ff0b62cfe3feb48bf6f53b41cd48e21dd0bfe054", func := "loop.example/g00231/laws.FnExactPush", spec := "fnExactPush", apart := false }
def FnExactPushSaid : Prop := fnExactPushRow.holds Try.pinned (OpenSpec.ofChange fnExactPushSpec)

/-- ITS FALSE NEIGHBOUR: 'it returns false'. Refute it at one input. -/
def fnExactPushWrong : ChangeSpec := { name := "fnExactPush", fn := fun _ => fun
  | [d1, d2, d3] => { results := [.lit (.bool false)], args := [d1, d2, d3] }
  | _ => none }
def FnExactPushWrongFalsely : Prop := fnExactPushRow.holds Try.pinned (OpenSpec.ofChange fnExactPushWrong)

/-- 'laws.FnExactMemOk': WHATEVER THE INPUT: true; the input reads as it did. -/
def fnExactMemOkSpec : ChangeSpec := { name := "fnExactMemOk", fn := fun _ => fun
  | [d1, d2] => { results := [.lit (.bool true)], args := [d1, d2] }
  | _ => none }
def fnExactMemOkRow : OpenClaim := { program := "ytmiaocoffmobcaa", sum := "372d501fa9d6a8031e897e75ff0b62cfe3feb48bf6f53b41cd48e21dd0bfe054", func := "loop.example/g00231/laws.FnExactMemOk", spec := "fnExactMemOk", apart := false }
def FnExactMemOkSaid : Prop := fnExactMemOkRow.holds Try.pinned (OpenSpec.ofChange fnExactMemOkSpec)

/-- ITS FALSE NEIGHBOUR: 'it returns false'. Refute it at one input. -/
def fnExactMemOkWrong : ChangeSpec := { name := "fnExactMemOk", fn := fun _ => fun
  | [d1, d2] => { results := [.lit (.bool false)], args := [d1, d2] }
  | _ => none }
def FnExactMemOkWrongFalsely : Prop := fnExactMemOkRow.holds Try.pinned (OpenSpec.ofChange fnExactMemOkWrong)

/-- 'laws.FnExactBankOf': WHATEVER THE INPUT: true; the input reads as it did. -/
def fnExactBankOfSpec : ChangeSpec := { name := "fnExactBankOf", fn := fun _ => fun
  | [d1, d2] => { results := [.lit (.bool true)], args := [d1, d2] }
  | _ => none }
def fnExactBankOfRow : OpenClaim := { program := "ytmiaocoffmobcaa", sum := "372d501fa9d6a8031e897e75ff0b62cfe3feb48bf6f53b41cd48e21dd0bfe054", func := "loop.example/g00231/laws.FnExactBankOf", spec := "fnExactBankOf", apart := false }
def FnExactBankOfSaid : Prop := fnExactBankOfRow.holds Try.pinned (OpenSpec.ofChange fnExactBankOfSpec)

/-- ITS FALSE NEIGHBOUR: 'it returns false'. Refute it at one input. -/
def fnExactBankOfWrong : ChangeSpec := { name := "fnExactBankOf", fn := fun _ => fun
  | [d1, d2] => { results := [.lit (.bool false)], args := [d1, d2] }
  | _ => none }
def FnExactBankOfWrongFalsely : Prop := fnExactBankOfRow.holds Try.pinned (OpenSpec.ofChange fnExactBankOfWrong)

/-- 'laws.FnExactImageRead': WHATEVER THE INPUT: true; the input reads as it did. -/
def fnExactImageReadSpec : ChangeSpec := { name := "fnExactImageRead", fn := fun _ => fun
  | [d] => { results := [.lit (.bool true)], args := [d] }
  | _ => none }
def fnExactImageReadRow : OpenClaim := { program := "ytmiaocoffmobcaa", sum := "372d501fa9d6a8031e897e75ff0b62cfe3feb48bf6f53b41cd48e21dd0bfe054", func := "loop.example/g00231/laws.FnExactImageRead", spec := "fnExactImageRead", apart := false }
def FnExactImageReadSaid : Prop := fnExactImageReadRow.holds Try.pinned (OpenSpec.ofChange fnExactImageReadSpec)

/-- ITS FALSE NEIGHBOUR: 'it returns false'. Refute it at one input. -/
def fnExactImageReadWrong : ChangeSpec := { name := "fnExactImageRead", fn := fun _ => fun
  | [d] => { results := [.lit (.bool false)], args := [d] }
  | _ => none }
def FnExactImageReadWrongFalsely : Prop := fnExactImageReadRow.holds Try.pinned (OpenSpec.ofChange fnExactImageReadWrong)

/-- 'laws.FnExactImageBytes': WHATEVER THE INPUT: true; the input reads as it did. -/
def fnExactImageBytesSpec : ChangeSpec := { name := "fnExactImageBytes", fn := fun _ => fun
  | [d] => { results := [.lit (.bool true)], args := [d] }
  | _ => none }
def fnExactImageBytesRow : OpenClaim := { program := "ytmiaocoffmobcaa", sum := "372d501fa9d6a8031e897e75ff0b62cfe3feb48bf6f53b41cd48e21dd0bfe054", func := "loop.example/g00231/laws.FnExactImageBytes", spec := "fnExactImageBytes", apart := false }
def FnExactImageBytesSaid : Prop := fnExactImageBytesRow.holds Try.pinned (OpenSpec.ofChange fnExactImageBytesSpec)

/-- ITS FALSE NEIGHBOUR: 'it returns false'. Refute it at one input. -/
def fnExactImageBytesWrong : ChangeSpec := { name := "fnExactImageBytes", fn := fun _ => fun
  | [d] => { results := [.lit (.bool false)], args := [d] }
  | _ => none }
def FnExactImageBytesWrongFalsely : Prop := fnExactImageBytesRow.holds Try.pinned (OpenSpec.ofChange fnExactImageBytesWrong)

/-- 'laws.FnExactPeek': WHATEVER THE INPUT: true; the input reads as it did. -/
def fnExactPeekSpec : ChangeSpec := { name := "fnExactPeek", fn := fun _ => fun
  | [d1, d2, d3] => { results := [.lit (.bool true)], args := [d1, d2, d3] }
  | _ => none }
def fnExactPeekRow : OpenClaim := { program := "ytmiaocoffmobcaa", sum := "372d501fa9d6a8031e897e75ff0b62cfe3feb48bf6f53b41cd48e21dd0bfe054", func := "loop.example/g00231/laws.FnExactPeek", spec := "fnExactPeek", apart := false }
def FnExactPeekSaid : Prop := fnExactPeekRow.holds Try.pinned (OpenSpec.ofChange fnExactPeekSpec)

/-- ITS FALSE NEIGHBOUR: 'it returns false'. Refute it at one input. -/
def fnExactPeekWrong : ChangeSpec := { name := "fnExactPeek", fn := fun _ => fun
  | [d1, d2, d3] => { results := [.lit (.bool false)], args := [d1, d2, d3] }
  | _ => none }
def FnExactPeekWrongFalsely : Prop := fnExactPeekRow.holds Try.pinned (OpenSpec.ofChange fnExactPeekWrong)

/-- 'laws.FnExactCpuNew': WHATEVER THE INPUT: true; the input reads as it did. -/
def fnExactCpuNewSpec : ChangeSpec := { name := "fnExactCpuNew", fn := fun _ => fun
  | [d] => { results := [.lit (.bool true)], args := [d] }
  | _ => none }
def fnExactCpuNewRow : OpenClaim := { program := "ytmiaocoffmobcaa", sum := "372d501fa9d6a8031e897e75ff0b62cfe3feb48bf6f53b41cd48e21dd0bfe054", func := "loop.example/g00231/laws.FnExactCpuNew", spec := "fnExactCpuNew", apart := false }
def FnExactCpuNewSaid : Prop := fnExactCpuNewRow.holds Try.pinned (OpenSpec.ofChange fnExactCpuNewSpec)

/-- ITS FALSE NEIGHBOUR: 'it returns false'. Refute it at one input. -/
def fnExactCpuNewWrong : ChangeSpec := { name := "fnExactCpuNew", fn := fun _ => fun
  | [d] => { results := [.lit (.bool false)], args := [d] }
  | _ => none }
def FnExactCpuNewWrongFalsely : Prop := fnExactCpuNewRow.holds Try.pinned (OpenSpec.ofChange fnExactCpuNewWrong)

/-- 'laws.FnExactPoke': WHATEVER THE INPUT: true; the input reads as it did. -/
def fnExactPokeSpec : ChangeSpec := { name := "fnExactPoke", fn := fun _ => fun
  | [d1, d2, d3, d4] => { results := [.lit (.bool true)], args := [d1, d2, d3, d4] }
  | _ => none }
def fnExactPokeRow : OpenClaim := { program := "ytmiaocoffmobcaa", sum := "372d501fa9d6a8031e897e75ff0b62cfe3feb48bf6f53b41cd48e21dd0bfe054", func := "loop.example/g00231/laws.FnExactPoke", spec := "fnExactPoke", apart := false }
def FnExactPokeSaid : Prop := fnExactPokeRow.holds Try.pinned (OpenSpec.ofChange fnExactPokeSpec)

/-- ITS FALSE NEIGHBOUR: 'it returns false'. Refute it at one input. -/
def fnExactPokeWrong : ChangeSpec := { name := "fnExactPoke", fn := fun _ => fun
  | [d1, d2, d3, d4] => { results := [.lit (.bool false)], args := [d1, d2, d3, d4] }
  | _ => none }
def FnExactPokeWrongFalsely : Prop := fnExactPokeRow.holds Try.pinned (OpenSpec.ofChange fnExactPokeWrong)

/-- 'laws.FnExactFetch': WHATEVER THE INPUT: true; the input reads as it did. -/
def fnExactFetchSpec : ChangeSpec := { name := "fnExactFetch", fn := fun _ => fun
  | [d1, d2, d3] => { results := [.lit (.bool true)], args := [d1, d2, d3] }
  | _ => none }
def fnExactFetchRow : OpenClaim := { program := "ytmiaocoffmobcaa", sum := "372d501fa9d6a8031e897e75ff0b62cfe3feb48bf6f53b41cd48e21dd0bfe054", func := "loop.example/g00231/laws.FnExactFetch", spec := "fnExactFetch", apart := false }
def FnExactFetchSaid : Prop := fnExactFetchRow.holds Try.pinned (OpenSpec.ofChange fnExactFetchSpec)

/-- ITS FALSE NEIGHBOUR: 'it returns false'. Refute it at one input. -/
def fnExactFetchWrong : ChangeSpec := { name := "fnExactFetch", fn := fun _ => fun
  | [d1, d2, d3] => { results := [.lit (.bool false)], args := [d1, d2, d3] }
  | _ => none }
def FnExactFetchWrongFalsely : Prop := fnExactFetchRow.holds Try.pinned (OpenSpec.ofChange fnExactFetchWrong)

/-- 'laws.FnExactEnter': WHATEVER THE INPUT: true; the input reads as it did. -/
def fnExactEnterSpec : ChangeSpec := { name := "fnExactEnter", fn := fun _ => fun
  | [d1, d2, d3, d4] => { results := [.lit (.bool true)], args := [d1, d2, d3, d4] }
  | _ => none }
def fnExactEnterRow : OpenClaim := { program := "ytmiaocoffmobcaa", sum := "372d501fa9d6a8031e897e75ff0b62cfe3feb48bf6f53b41cd48e21dd0bfe054", func := "loop.example/g00231/laws.FnExactEnter", spec := "fnExactEnter", apart := false }
def FnExactEnterSaid : Prop := fnExactEnterRow.holds Try.pinned (OpenSpec.ofChange fnExactEnterSpec)

/-- ITS FALSE NEIGHBOUR: 'it returns false'. Refute it at one input. -/
def fnExactEnterWrong : ChangeSpec := { name := "fnExactEnter", fn := fun _ => fun
  | [d1, d2, d3, d4] => { results := [.lit (.bool false)], args := [d1, d2, d3, d4] }
  | _ => none }
def FnExactEnterWrongFalsely : Prop := fnExactEnterRow.holds Try.pinned (OpenSpec.ofChange fnExactEnterWrong)

/-- 'laws.FnExactExec': WHATEVER THE INPUT: true; the input reads as it did. -/
def fnExactExecSpec : ChangeSpec := { name := "fnExactExec", fn := fun _ => fun
  | [d1, d2, d3, d4] => { results := [.lit (.bool true)], args := [d1, d2, d3, d4] }
  | _ => none }
def fnExactExecRow : OpenClaim := { program := "ytmiaocoffmobcaa", sum := "372d501fa9d6a8031e897e75ff0b62cfe3feb48bf6f53b41cd48e21dd0bfe054", func := "loop.example/g00231/laws.FnExactExec", spec := "fnExactExec", apart := false }
def FnExactExecSaid : Prop := fnExactExecRow.holds Try.pinned (OpenSpec.ofChange fnExactExecSpec)

/-- ITS FALSE NEIGHBOUR: 'it returns false'. Refute it at one input. -/
def fnExactExecWrong : ChangeSpec := { name := "fnExactExec", fn := fun _ => fun
  | [d1, d2, d3, d4] => { results := [.lit (.bool false)], args := [d1, d2, d3, d4] }
  | _ => none }
def FnExactExecWrongFalsely : Prop := fnExactExecRow.holds Try.pinned (OpenSpec.ofChange fnExactExecWrong)

/- THE SECOND FORM. 'bulk': how many values and letters a reading holds, each counted each time it is reached (what is shared counts as often as it is met; a slice's spare places count too). A statement '..UptoSaid' is the law's where the arguments, and the package variables that the reading takes, are together of bulk at most 1048576: NARROWER than '..Said'. Prove '..Said' where nothing that the law and all that it calls make is longer than what came in: it says more and counts as full. Else prove '..UptoSaid'. A law counts once. -/
mutual
def uptoBulk {H : Type} : DataW H → Nat
  | .lit (.string bytes) => bytes.length + 1
  | .lit _ => 1
  | .nil => 1
  | .ptr d => uptoBulk d + 1
  | .slice elems spare => uptoBulkAll elems + uptoBulkAll spare + 1
  | .agg parts => uptoBulkAll parts + 1
  | .iface _ d => uptoBulk d + 1
  | .map entries => uptoBulkEntries entries + 1
  | .held _ => 1
def uptoBulkAll {H : Type} : List (DataW H) → Nat
  | [] => 0
  | d :: r => uptoBulk d + uptoBulkAll r
def uptoBulkEntries {H : Type} : List (Lit × DataW H) → Nat
  | [] => 0
  | x :: r => uptoBulkEntry x + uptoBulkEntries r
def uptoBulkEntry {H : Type} : Lit × DataW H → Nat
  | (.string bytes, d) => bytes.length + uptoBulk d + 1
  | (_, d) => uptoBulk d + 1
 end
def uptoSmall : (H : Type) → List (DataW H) → Bool := fun _ ds => decide (uptoBulkAll ds ≤ 1048576)
def OpenSpec.upto (s : _root_.Go.ChangeSpec) : _root_.Go.OpenSpec := { _root_.Go.OpenSpec.ofChange s with cond := some uptoSmall }

/-- 'laws.FnExactImageOk', WHERE WHAT IT READS IS OF BULK AT MOST 1048576: true; the input reads as it did. -/
def fnExactImageOkUptoRow : OpenClaim := { program := "ytmiaocoffmobcaa", sum := "372d501fa9d6a8031e897e75ff0b62cfe3feb48bf6f53b41cd48e21dd0bfe054", func := "loop.example/g00231/laws.FnExactImageOk", spec := "fnExactImageOk", apart := false, narrowed := true }
def FnExactImageOkUptoSaid : Prop := fnExactImageOkUptoRow.holds Try.pinned (OpenSpec.upto fnExactImageOkSpec)

/-- 'laws.FnExactPush', WHERE WHAT IT READS IS OF BULK AT MOST 1048576: true; the input reads as it did. -/
def fnExactPushUptoRow : OpenClaim := { program := "ytmiaocoffmobcaa", sum := "372d501fa9d6a8031e897e75ff0b62cfe3feb48bf6f53b41cd48e21dd0bfe054", func := "loop.example/g00231/laws.FnExactPush", spec := "fnExactPush", apart := false, narrowed := true }
def FnExactPushUptoSaid : Prop := fnExactPushUptoRow.holds Try.pinned (OpenSpec.upto fnExactPushSpec)

/-- 'laws.FnExactMemOk', WHERE WHAT IT READS IS OF BULK AT MOST 1048576: true; the input reads as it did. -/
def fnExactMemOkUptoRow : OpenClaim := { program := "ytmiaocoffmobcaa", sum := "372d501fa9d6a8031e897e75ff0b62cfe3feb48bf6f53b41cd48e21dd0bfe054", func := "loop.example/g00231/laws.FnExactMemOk", spec := "fnExactMemOk", apart := false, narrowed := true }
def FnExactMemOkUptoSaid : Prop := fnExactMemOkUptoRow.holds Try.pinned (OpenSpec.upto fnExactMemOkSpec)

/-- 'laws.FnExactBankOf', WHERE WHAT IT READS IS OF BULK AT MOST 1048576: true; the input reads as it did. -/
def fnExactBankOfUptoRow : OpenClaim := { program := "ytmiaocoffmobcaa", sum := "372d501fa9d6a8031e897e75ff0b62cfe3feb48bf6f53b41cd48e21dd0bfe054", func := "loop.example/g00231/laws.FnExactBankOf", spec := "fnExactBankOf", apart := false, narrowed := true }
def FnExactBankOfUptoSaid : Prop := fnExactBankOfUptoRow.holds Try.pinned (OpenSpec.upto fnExactBankOfSpec)

/-- 'laws.FnExactImageRead', WHERE WHAT IT READS IS OF BULK AT MOST 1048576: true; the input reads as it did. -/
def fnExactImageReadUptoRow : OpenClaim := { program := "ytmiaocoffmobcaa", sum := "372d501fa9d6a8031e897e75ff0b62cfe3feb48bf6f53b41cd48e21dd0bfe054", func := "loop.example/g00231/laws.FnExactImageRead", spec := "fnExactImageRead", apart := false, narrowed := true }
def FnExactImageReadUptoSaid : Prop := fnExactImageReadUptoRow.holds Try.pinned (OpenSpec.upto fnExactImageReadSpec)

/-- 'laws.FnExactImageBytes', WHERE WHAT IT READS IS OF BULK AT MOST 1048576: true; the input reads as it did. -/
def fnExactImageBytesUptoRow : OpenClaim := { program := "ytmiaocoffmobcaa", sum := "372d501fa9d6a8031e897e75ff0b62cfe3feb48bf6f53b41cd48e21dd0bfe054", func := "loop.example/g00231/laws.FnExactImageBytes", spec := "fnExactImageBytes", apart := false, narrowed := true }
def FnExactImageBytesUptoSaid : Prop := fnExactImageBytesUptoRow.holds Try.pinned (OpenSpec.upto fnExactImageBytesSpec)

/-- 'laws.FnExactPeek', WHERE WHAT IT READS IS OF BULK AT MOST 1048576: true; the input reads as it did. -/
def fnExactPeekUptoRow : OpenClaim := { program := "ytmiaocoffmobcaa", sum := "372d501fa9d6a8031e897e75ff0b62cfe3feb48bf6f53b41cd48e21dd0bfe054", func := "loop.example/g00231/laws.FnExactPeek", spec := "fnExactPeek", apart := false, narrowed := true }
def FnExactPeekUptoSaid : Prop := fnExactPeekUptoRow.holds Try.pinned (OpenSpec.upto fnExactPeekSpec)

/-- 'laws.FnExactCpuNew', WHERE WHAT IT READS IS OF BULK AT MOST 1048576: true; the input reads as it did. -/
def fnExactCpuNewUptoRow : OpenClaim := { program := "ytmiaocoffmobcaa", sum := "372d501fa9d6a8031e897e75ff0b62cfe3feb48bf6f53b41cd48e21dd0bfe054", func := "loop.example/g00231/laws.FnExactCpuNew", spec := "fnExactCpuNew", apart := false, narrowed := true }
def FnExactCpuNewUptoSaid : Prop := fnExactCpuNewUptoRow.holds Try.pinned (OpenSpec.upto fnExactCpuNewSpec)

/-- 'laws.FnExactPoke', WHERE WHAT IT READS IS OF BULK AT MOST 1048576: true; the input reads as it did. -/
def fnExactPokeUptoRow : OpenClaim := { program := "ytmiaocoffmobcaa", sum := "372d501fa9d6a8031e897e75ff0b62cfe3feb48bf6f53b41cd48e21dd0bfe054", func := "loop.example/g00231/laws.FnExactPoke", spec := "fnExactPoke", apart := false, narrowed := true }
def FnExactPokeUptoSaid : Prop := fnExactPokeUptoRow.holds Try.pinned (OpenSpec.upto fnExactPokeSpec)

/-- 'laws.FnExactFetch', WHERE WHAT IT READS IS OF BULK AT MOST 1048576: true; the input reads as it did. -/
def fnExactFetchUptoRow : OpenClaim := { program := "ytmiaocoffmobcaa", sum := "372d501fa9d6a8031e897e75ff0b62cfe3feb48bf6f53b41cd48e21dd0bfe054", func := "loop.example/g00231/laws.FnExactFetch", spec := "fnExactFetch", apart := false, narrowed := true }
def FnExactFetchUptoSaid : Prop := fnExactFetchUptoRow.holds Try.pinned (OpenSpec.upto fnExactFetchSpec)

/-- 'laws.FnExactEnter', WHERE WHAT IT READS IS OF BULK AT MOST 1048576: true; the input reads as it did. -/
def fnExactEnterUptoRow : OpenClaim := { program := "ytmiaocoffmobcaa", sum := "372d501fa9d6a8031e897e75ff0b62cfe3feb48bf6f53b41cd48e21dd0bfe054", func := "loop.example/g00231/laws.FnExactEnter", spec := "fnExactEnter", apart := false, narrowed := true }
def FnExactEnterUptoSaid : Prop := fnExactEnterUptoRow.holds Try.pinned (OpenSpec.upto fnExactEnterSpec)

/-- 'laws.FnExactExec', WHERE WHAT IT READS IS OF BULK AT MOST 1048576: true; the input reads as it did. -/
def fnExactExecUptoRow : OpenClaim := { program := "ytmiaocoffmobcaa", sum := "372d501fa9d6a8031e897e75ff0b62cfe3feb48bf6f53b41cd48e21dd0bfe054", func := "loop.example/g00231/laws.FnExactExec", spec := "fnExactExec", apart := false, narrowed := true }
def FnExactExecUptoSaid : Prop := fnExactExecUptoRow.holds Try.pinned (OpenSpec.upto fnExactExecSpec)

end Rows
end Go.Proofs.Ytmiaocoffmobcaa
