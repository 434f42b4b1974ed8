/- The program's Addr is the reference's, for every whole number. No condition. -/
import Derived.Test.YtcbjooahibllpaaPFnExactAddrx1
import Derived.Test.YtcbjooahibllpaaBase
namespace Go.Proofs.Ytcbjooahibllpaa.Pure
open Go.RowKit Go.Proofs.Ytcbjooahibllpaa.PFnExactAddr Go.Proofs.YtcbjooahibllpaaW.PrintWords Go.Proofs.YtcbjooahibllpaaW.PrintLast Go.Proofs.Ytcbjooahibllpaa.Base

theorem FnExactAddr : laws_FnExactAddr.Pure := by
  intro a0 _
  simp [laws_FnExactAddr.f, spec_Addr.f, impl_Addr.f]

end Go.Proofs.Ytcbjooahibllpaa.Pure
