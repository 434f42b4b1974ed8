/-
  No cell of these rows narrows 'for every input' (looked for: loops, veiled, ifaces, maps, wideKeys, modest, calm, conditions, laid).
  DERIVED. THE GIVEN ROWS OF THIS SEAT. 6 by the template 'for every input the law returns true; each argument reads behind the call as it read before'; 0 by the template 'total and deterministic' (their statements: YtmkccgbfgebfbaaTotals.lean).
  GIVEN WITH THE SEED: the statements are not yours to turn. If you find one false, say at which input.
  Laid BY PROGRAM, IN A SANDBOX (cutbox-rows.mjs): the forced cells as the released guide's own fill.sh prints them over the translation 45bba33c539e59eb… (all of the seat's roots in one cut). By AI agents, Wed Nov 11 2026. No macro, syntax, notation, axiom, sorry.
-/
import Derived.Test.YtmkccgbfgebfbaaChecked
import GoSem.Claim
import GoSem.ClaimJoined
import GoSem.ClaimMapViews
import Derived.JoinedTies
import Derived.KernelRfl
namespace Go.Proofs.Ytmkccgbfgebfbaa
/- THE CELL 'sum', in the pinned program and in every row, IS THE sha256 OF THE DUMP (.gsa) THAT YtmkccgbfgebfbaaProg.lean LOADS. Nothing in Lean hashes anything: it is a label: what it is worth is what the hold of that sum in a sandbox is worth. -/
noncomputable def Try.pinned : Pinned := { name := "ytmkccgbfgebfbaa", sum := "45bba33c539e59eb293ecbc6bf8106959d3173b7ed7520acc8ec234c742bbc49", checked := Try.checked }
namespace Rows
def none {H : Type} : Left H := { results := [], args := [] }

/-- 'laws.FnRegions': WHATEVER THE INPUT: true; the input reads as it did. -/
def fnRegionsSpec : ChangeSpec := { name := "fnRegions", fn := fun _ => fun
  | [d] => { results := [.lit (.bool true)], args := [d] }
  | _ => none }
def fnRegionsRow : OpenClaim := { program := "ytmkccgbfgebfbaa", sum := "45bba33c539e59eb293ecbc6bf8106959d3173b7ed7520acc8ec234c742bbc49", func := "loop.example/g00231/laws.FnRegions", spec := "fnRegions", apart := false }
def FnRegionsSaid : Prop := fnRegionsRow.holds Try.pinned (OpenSpec.ofChange fnRegionsSpec)

/-- ITS FALSE NEIGHBOUR: 'it returns false'. Refute it at one input. -/
def fnRegionsWrong : ChangeSpec := { name := "fnRegions", fn := fun _ => fun
  | [d] => { results := [.lit (.bool false)], args := [d] }
  | _ => none }
def FnRegionsWrongFalsely : Prop := fnRegionsRow.holds Try.pinned (OpenSpec.ofChange fnRegionsWrong)

/-- 'laws.FnImage': WHATEVER THE INPUT: true; the input reads as it did. -/
def fnImageSpec : ChangeSpec := { name := "fnImage", fn := fun _ => fun
  | [d] => { results := [.lit (.bool true)], args := [d] }
  | _ => none }
def fnImageRow : OpenClaim := { program := "ytmkccgbfgebfbaa", sum := "45bba33c539e59eb293ecbc6bf8106959d3173b7ed7520acc8ec234c742bbc49", func := "loop.example/g00231/laws.FnImage", spec := "fnImage", apart := false }
def FnImageSaid : Prop := fnImageRow.holds Try.pinned (OpenSpec.ofChange fnImageSpec)

/-- ITS FALSE NEIGHBOUR: 'it returns false'. Refute it at one input. -/
def fnImageWrong : ChangeSpec := { name := "fnImage", fn := fun _ => fun
  | [d] => { results := [.lit (.bool false)], args := [d] }
  | _ => none }
def FnImageWrongFalsely : Prop := fnImageRow.holds Try.pinned (OpenSpec.ofChange fnImageWrong)

/-- 'laws.FnMemory': WHATEVER THE INPUT: true; the input reads as it did. -/
def fnMemorySpec : ChangeSpec := { name := "fnMemory", fn := fun _ => fun
  | [d] => { results := [.lit (.bool true)], args := [d] }
  | _ => none }
def fnMemoryRow : OpenClaim := { program := "ytmkccgbfgebfbaa", sum := "45bba33c539e59eb293ecbc6bf8106959d3173b7ed7520acc8ec234c742bbc49", func := "loop.example/g00231/laws.FnMemory", spec := "fnMemory", apart := false }
def FnMemorySaid : Prop := fnMemoryRow.holds Try.pinned (OpenSpec.ofChange fnMemorySpec)

/-- ITS FALSE NEIGHBOUR: 'it returns false'. Refute it at one input. -/
def fnMemoryWrong : ChangeSpec := { name := "fnMemory", fn := fun _ => fun
  | [d] => { results := [.lit (.bool false)], args := [d] }
  | _ => none }
def FnMemoryWrongFalsely : Prop := fnMemoryRow.holds Try.pinned (OpenSpec.ofChange fnMemoryWrong)

/-- 'laws.FnFetched': WHATEVER THE INPUT: true; the input reads as it did. -/
def fnFetchedSpec : ChangeSpec := { name := "fnFetched", fn := fun _ => fun
  | [d] => { results := [.lit (.bool true)], args := [d] }
  | _ => none }
def fnFetchedRow : OpenClaim := { program := "ytmkccgbfgebfbaa", sum := "45bba33c539e59eb293ecbc6bf8106959d3173b7ed7520acc8ec234c742bbc49", func := "loop.example/g00231/laws.FnFetched", spec := "fnFetched", apart := false }
def FnFetchedSaid : Prop := fnFetchedRow.holds Try.pinned (OpenSpec.ofChange fnFetchedSpec)

/-- ITS FALSE NEIGHBOUR: 'it returns false'. Refute it at one input. -/
def fnFetchedWrong : ChangeSpec := { name := "fnFetched", fn := fun _ => fun
  | [d] => { results := [.lit (.bool false)], args := [d] }
  | _ => none }
def FnFetchedWrongFalsely : Prop := fnFetchedRow.holds Try.pinned (OpenSpec.ofChange fnFetchedWrong)

/-- 'laws.FnCalled': WHATEVER THE INPUT: true; the input reads as it did. -/
def fnCalledSpec : ChangeSpec := { name := "fnCalled", fn := fun _ => fun
  | [d] => { results := [.lit (.bool true)], args := [d] }
  | _ => none }
def fnCalledRow : OpenClaim := { program := "ytmkccgbfgebfbaa", sum := "45bba33c539e59eb293ecbc6bf8106959d3173b7ed7520acc8ec234c742bbc49", func := "loop.example/g00231/laws.FnCalled", spec := "fnCalled", apart := false }
def FnCalledSaid : Prop := fnCalledRow.holds Try.pinned (OpenSpec.ofChange fnCalledSpec)

/-- ITS FALSE NEIGHBOUR: 'it returns false'. Refute it at one input. -/
def fnCalledWrong : ChangeSpec := { name := "fnCalled", fn := fun _ => fun
  | [d] => { results := [.lit (.bool false)], args := [d] }
  | _ => none }
def FnCalledWrongFalsely : Prop := fnCalledRow.holds Try.pinned (OpenSpec.ofChange fnCalledWrong)

/-- 'laws.FnEntered': WHATEVER THE INPUT: true; the input reads as it did. -/
def fnEnteredSpec : ChangeSpec := { name := "fnEntered", fn := fun _ => fun
  | [d] => { results := [.lit (.bool true)], args := [d] }
  | _ => none }
def fnEnteredRow : OpenClaim := { program := "ytmkccgbfgebfbaa", sum := "45bba33c539e59eb293ecbc6bf8106959d3173b7ed7520acc8ec234c742bbc49", func := "loop.example/g00231/laws.FnEntered", spec := "fnEntered", apart := false }
def FnEnteredSaid : Prop := fnEnteredRow.holds Try.pinned (OpenSpec.ofChange fnEnteredSpec)

/-- ITS FALSE NEIGHBOUR: 'it returns false'. Refute it at one input. -/
def fnEnteredWrong : ChangeSpec := { name := "fnEntered", fn := fun _ => fun
  | [d] => { results := [.lit (.bool false)], args := [d] }
  | _ => none }
def FnEnteredWrongFalsely : Prop := fnEnteredRow.holds Try.pinned (OpenSpec.ofChange fnEnteredWrong)

/- THE SECOND FORM. 'bulk': how many values and letters a reading holds, each counted each time it is reached (what is shared counts as often as it is met; a slice's spare places count too). A statement '..UptoSaid' is the law's where the arguments, and the package variables that the reading takes, are together of bulk at most 1048576: NARROWER than '..Said'. Prove '..Said' where nothing that the law and all that it calls make is longer than what came in: it says more and counts as full. Else prove '..UptoSaid'. A law counts once. -/
mutual
def uptoBulk {H : Type} : DataW H → Nat
  | .lit (.string bytes) => bytes.length + 1
  | .lit _ => 1
  | .nil => 1
  | .ptr d => uptoBulk d + 1
  | .slice elems spare => uptoBulkAll elems + uptoBulkAll spare + 1
  | .agg parts => uptoBulkAll parts + 1
  | .iface _ d => uptoBulk d + 1
  | .map entries => uptoBulkEntries entries + 1
  | .held _ => 1
def uptoBulkAll {H : Type} : List (DataW H) → Nat
  | [] => 0
  | d :: r => uptoBulk d + uptoBulkAll r
def uptoBulkEntries {H : Type} : List (Lit × DataW H) → Nat
  | [] => 0
  | x :: r => uptoBulkEntry x + uptoBulkEntries r
def uptoBulkEntry {H : Type} : Lit × DataW H → Nat
  | (.string bytes, d) => bytes.length + uptoBulk d + 1
  | (_, d) => uptoBulk d + 1
 end
def uptoSmall : (H : Type) → List (DataW H) → Bool := fun _ ds => decide (uptoBulkAll ds ≤ 1048576)
def OpenSpec.upto (s : _root_.Go.ChangeSpec) : _root_.Go.OpenSpec := { _root_.Go.OpenSpec.ofChange s with cond := some uptoSmall }

/-- 'laws.FnRegions', WHERE WHAT IT READS IS OF BULK AT MOST 1048576: true; the input reads as it did. -/
def fnRegionsUptoRow : OpenClaim := { program := "ytmkccgbfgebfbaa", sum := "45bba33c539e59eb293ecbc6bf8106959d3173b7ed7520acc8ec234c742bbc49", func := "loop.example/g00231/laws.FnRegions", spec := "fnRegions", apart := false, narrowed := true }
def FnRegionsUptoSaid : Prop := fnRegionsUptoRow.holds Try.pinned (OpenSpec.upto fnRegionsSpec)

/-- 'laws.FnImage', WHERE WHAT IT READS IS OF BULK AT MOST 1048576: true; the input reads as it did. -/
def fnImageUptoRow : OpenClaim := { program := "ytmkccgbfgebfbaa", sum := "45bba33c539e59eb293ecbc6bf8106959d3173b7ed7520acc8ec234c742bbc49", func := "loop.example/g00231/laws.FnImage", spec := "fnImage", apart := false, narrowed := true }
def FnImageUptoSaid : Prop := fnImageUptoRow.holds Try.pinned (OpenSpec.upto fnImageSpec)

/-- 'laws.FnMemory', WHERE WHAT IT READS IS OF BULK AT MOST 1048576: true; the input reads as it did. -/
def fnMemoryUptoRow : OpenClaim := { program := "ytmkccgbfgebfbaa", sum := "45bba33c539e59eb293ecbc6bf8106959d3173b7ed7520acc8ec234c742bbc49", func := "loop.example/g00231/laws.FnMemory", spec := "fnMemory", apart := false, narrowed := true }
def FnMemoryUptoSaid : Prop := fnMemoryUptoRow.holds Try.pinned (OpenSpec.upto fnMemorySpec)

/-- 'laws.FnFetched', WHERE WHAT IT READS IS OF BULK AT MOST 1048576: true; the input reads as it did. -/
def fnFetchedUptoRow : OpenClaim := { program := "ytmkccgbfgebfbaa", sum := "45bba33c539e59eb293ecbc6bf8106959d3173b7ed7520acc8ec234c742bbc49", func := "loop.example/g00231/laws.FnFetched", spec := "fnFetched", apart := false, narrowed := true }
def FnFetchedUptoSaid : Prop := fnFetchedUptoRow.holds Try.pinned (OpenSpec.upto fnFetchedSpec)

/-- 'laws.FnCalled', WHERE WHAT IT READS IS OF BULK AT MOST 1048576: true; the input reads as it did. -/
def fnCalledUptoRow : OpenClaim := { program := "ytmkccgbfgebfbaa", sum := "45bba33c539e59eb293ecbc6bf8106959d3173b7ed7520acc8ec234c742bbc49", func := "loop.example/g00231/laws.FnCalled", spec := "fnCalled", apart := false, narrowed := true }
def FnCalledUptoSaid : Prop := fnCalledUptoRow.holds Try.pinned (OpenSpec.upto fnCalledSpec)

/-- 'laws.FnEntered', WHERE WHAT IT READS IS OF BULK AT MOST 1048576: true; the input reads as it did. -/
def fnEnteredUptoRow : OpenClaim := { program := "ytmkccgbfgebfbaa", sum := "45bba33c539e59eb293ecbc6bf8106959d3173b7ed7520acc8ec234c742bbc49", func := "loop.example/g00231/laws.FnEntered", spec := "fnEntered", apart := false, narrowed := true }
def FnEnteredUptoSaid : Prop := fnEnteredUptoRow.holds Try.pinned (OpenSpec.upto fnEnteredSpec)

end Rows
end Go.Proofs.Ytmkccgbfgebfbaa
