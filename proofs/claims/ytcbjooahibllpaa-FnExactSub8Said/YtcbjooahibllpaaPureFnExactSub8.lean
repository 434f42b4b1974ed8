/- The program's Sub8 is the reference's, for all whole numbers and both carries. No condition. -/
import Derived.Test.YtcbjooahibllpaaPFnExactSub8x1
import Derived.Test.YtcbjooahibllpaaBase
namespace Go.Proofs.Ytcbjooahibllpaa.Pure
open Go.RowKit Go.Proofs.Ytcbjooahibllpaa.PFnExactSub8 Go.Proofs.YtcbjooahibllpaaW.PrintWords Go.Proofs.YtcbjooahibllpaaW.PrintLast Go.Proofs.Ytcbjooahibllpaa.Base

theorem FnExactSub8 : laws_FnExactSub8.Pure := by
  intro a0 a1 a2 _ _
  have x0 := Int.emod_nonneg a0 (b := 256) (by decide)
  have x1 := Int.emod_lt_of_pos a0 (b := 256) (by decide)
  have y0 := Int.emod_nonneg a1 (b := 256) (by decide)
  have y1 := Int.emod_lt_of_pos a1 (b := 256) (by decide)
  have e : spec_Sub8.f a0 a1 a2 = impl_Sub8.f a0 a1 a2 := by
    simp only [spec_Sub8.f, impl_Sub8.f, spec_Byte.f, impl_Byte.f, spec_l1Bit.f, impl_flag.f, and255, Option.bind_some]
    generalize a0 % 256 = x at *
    generalize a1 % 256 = y at *
    cases a2
    · simp only [Bool.false_eq_true, if_false, Bool.not_false, if_true, Option.bind_some]
      rw [show wrap64 (wrap64 (wrap64 (x - y) - 1) + 0) = wrap64 (wrap64 (x - y) - 1) by unfold wrap64; omega]
    · simp only [if_true, Bool.not_true, Bool.false_eq_true, if_false, Option.bind_some]
      rw [show wrap64 (wrap64 (wrap64 (x - y) - 1) + 1) = wrap64 (wrap64 (x - y) - 0) by unfold wrap64; omega]
  have h : ∃ r, impl_Sub8.f a0 a1 a2 = some r := by
    cases a2 <;> simp [impl_Sub8.f, impl_Byte.f, impl_flag.f]
  obtain ⟨r, h⟩ := h
  simp [laws_FnExactSub8.f, e, h]

end Go.Proofs.Ytcbjooahibllpaa.Pure
