/- The program's Signs is the reference's, for every whole number. No condition. -/
import Derived.Test.YtcbjooahibllpaaPFnExactSignsx1
import Derived.Test.YtcbjooahibllpaaBase
namespace Go.Proofs.Ytcbjooahibllpaa.Pure
open Go.RowKit Go.Proofs.Ytcbjooahibllpaa.PFnExactSigns Go.Proofs.YtcbjooahibllpaaW.PrintWords Go.Proofs.YtcbjooahibllpaaW.PrintLast Go.Proofs.Ytcbjooahibllpaa.Base

theorem FnExactSigns : laws_FnExactSigns.Pure := by
  intro a0 _
  simp [laws_FnExactSigns.f, spec_Signs.f, impl_Signs.f, spec_Byte.f, impl_Byte.f]

end Go.Proofs.Ytcbjooahibllpaa.Pure
