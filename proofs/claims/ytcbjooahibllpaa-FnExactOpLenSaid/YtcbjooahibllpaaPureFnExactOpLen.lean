/- The program's OpLen is the reference's, for every whole number. No condition. -/
import Derived.Test.YtcbjooahibllpaaPFnExactOpLenx1
import Derived.Test.YtcbjooahibllpaaBase
namespace Go.Proofs.Ytcbjooahibllpaa.Pure
open Go.RowKit Go.Proofs.Ytcbjooahibllpaa.PFnExactOpLen Go.Proofs.YtcbjooahibllpaaW.PrintWords Go.Proofs.YtcbjooahibllpaaW.PrintLast Go.Proofs.Ytcbjooahibllpaa.Base

theorem FnExactOpLen : laws_FnExactOpLen.Pure := by
  intro a0 _
  refine ⟨1, ?_⟩
  by_cases h : 0 ≤ a0 ∧ a0 ≤ 29
  · have hc : ∀ n : Fin 30, laws_FnExactOpLen.f 1 (n.val : Int) = some true := by decide
    have := hc ⟨a0.toNat, by omega⟩
    rw [show ((a0.toNat : Nat) : Int) = a0 by omega] at this
    exact this
  · have n1 : ¬ a0 = 1 := by omega
    have n2 : ¬ a0 = 2 := by omega
    have n3 : ¬ a0 = 3 := by omega
    have n4 : ¬ a0 = 29 := by omega
    have hs : spec_l1In.f a0 0 29 = some false := by
      unfold spec_l1In.f; split <;> simp <;> omega
    have h1 : impl_within.f a0 4 9 = some false := by
      unfold impl_within.f; split <;> simp <;> omega
    have h2 : impl_within.f a0 14 20 = some false := by
      unfold impl_within.f; split <;> simp <;> omega
    simp [laws_FnExactOpLen.f, spec_OpLen.f, impl_OpLen.f, impl_OpLen.j0, hs, h1, h2, n1, n2, n3, n4]

end Go.Proofs.Ytcbjooahibllpaa.Pure
