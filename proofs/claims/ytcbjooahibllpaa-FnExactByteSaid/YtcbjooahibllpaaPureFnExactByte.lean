/- The program's Byte is the reference's, for every whole number. No condition. -/
import Derived.Test.YtcbjooahibllpaaPFnExactBytex1
import Derived.Test.YtcbjooahibllpaaBase
namespace Go.Proofs.Ytcbjooahibllpaa.Pure
open Go.RowKit Go.Proofs.Ytcbjooahibllpaa.PFnExactByte Go.Proofs.YtcbjooahibllpaaW.PrintWords Go.Proofs.YtcbjooahibllpaaW.PrintLast Go.Proofs.Ytcbjooahibllpaa.Base

theorem FnExactByte : laws_FnExactByte.Pure := by
  intro a0 _
  simp [laws_FnExactByte.f, spec_Byte.f, impl_Byte.f]

end Go.Proofs.Ytcbjooahibllpaa.Pure
