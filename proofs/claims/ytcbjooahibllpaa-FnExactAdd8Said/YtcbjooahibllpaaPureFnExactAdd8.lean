/- The program's Add8 is the reference's, for all whole numbers and both carries. No condition. -/
import Derived.Test.YtcbjooahibllpaaPFnExactAdd8x1
import Derived.Test.YtcbjooahibllpaaBase
namespace Go.Proofs.Ytcbjooahibllpaa.Pure
open Go.RowKit Go.Proofs.Ytcbjooahibllpaa.PFnExactAdd8 Go.Proofs.YtcbjooahibllpaaW.PrintWords Go.Proofs.YtcbjooahibllpaaW.PrintLast Go.Proofs.Ytcbjooahibllpaa.Base

theorem FnExactAdd8 : laws_FnExactAdd8.Pure := by
  intro a0 a1 a2 _ _
  cases a2 <;> simp [laws_FnExactAdd8.f, spec_Add8.f, impl_Add8.f, spec_Byte.f, impl_Byte.f, spec_l1Bit.f, impl_flag.f]

end Go.Proofs.Ytcbjooahibllpaa.Pure
