/- The program's OpCycles is the reference's, for every whole number. No condition. -/
import Derived.Test.YtcbjooahibllpaaPFnExactOpCyclesx1
import Derived.Test.YtcbjooahibllpaaBase
namespace Go.Proofs.Ytcbjooahibllpaa.Pure
open Go.RowKit Go.Proofs.Ytcbjooahibllpaa.PFnExactOpCycles Go.Proofs.YtcbjooahibllpaaW.PrintWords Go.Proofs.YtcbjooahibllpaaW.PrintLast Go.Proofs.Ytcbjooahibllpaa.Base

theorem FnExactOpCycles : laws_FnExactOpCycles.Pure := by
  intro a0 _
  refine ⟨2, ?_⟩
  by_cases h : 0 ≤ a0 ∧ a0 ≤ 29
  · have hc : ∀ n : Fin 30, laws_FnExactOpCycles.f 2 (n.val : Int) = some true := by decide
    have := hc ⟨a0.toNat, by omega⟩
    rw [show ((a0.toNat : Nat) : Int) = a0 by omega] at this
    exact this
  · have hs : spec_l1In.f a0 0 29 = some false := by
      unfold spec_l1In.f; split <;> simp <;> omega
    have n : ∀ c : Int, 0 ≤ c → c ≤ 29 → ¬ a0 = c := by intro c _ _; omega
    have m : ∀ c : Int, 0 ≤ c → c ≤ 29 → (a0 == c) = false := by intro c h1 h2; simp [n c h1 h2]
    simp [laws_FnExactOpCycles.f, spec_OpCycles.f, impl_OpCycles.f, impl_OpCycles.j0, impl_OpCycles.j1, hs, n, m]

end Go.Proofs.Ytcbjooahibllpaa.Pure
