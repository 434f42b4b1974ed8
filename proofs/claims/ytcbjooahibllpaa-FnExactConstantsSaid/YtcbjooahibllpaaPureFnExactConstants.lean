/- Every exported constant has the value that the reference names. No condition. -/
import Derived.Test.YtcbjooahibllpaaPFnExactConstantsx1
import Derived.Test.YtcbjooahibllpaaBase
namespace Go.Proofs.Ytcbjooahibllpaa.Pure
open Go.RowKit Go.Proofs.Ytcbjooahibllpaa.PFnExactConstants Go.Proofs.YtcbjooahibllpaaW.PrintWords Go.Proofs.YtcbjooahibllpaaW.PrintLast Go.Proofs.Ytcbjooahibllpaa.Base

theorem FnExactConstants : laws_FnExactConstants.Pure := rfl

end Go.Proofs.Ytcbjooahibllpaa.Pure
