/- The program's Join is the reference's, for all whole numbers. No condition. -/
import Derived.Test.YtcbjooahibllpaaPFnExactJoinx1
import Derived.Test.YtcbjooahibllpaaBase
namespace Go.Proofs.Ytcbjooahibllpaa.Pure
open Go.RowKit Go.Proofs.Ytcbjooahibllpaa.PFnExactJoin Go.Proofs.YtcbjooahibllpaaW.PrintWords Go.Proofs.YtcbjooahibllpaaW.PrintLast Go.Proofs.Ytcbjooahibllpaa.Base

theorem FnExactJoin : laws_FnExactJoin.Pure := by
  intro a0 a1 _ _
  simp [laws_FnExactJoin.f, spec_Join.f, impl_Join.f, spec_Byte.f, impl_Byte.f]

end Go.Proofs.Ytcbjooahibllpaa.Pure
