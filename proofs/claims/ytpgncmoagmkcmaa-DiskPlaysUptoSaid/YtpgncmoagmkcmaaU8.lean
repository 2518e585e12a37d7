/- The closed facts of this program's tables on []byte. -/
import Derived.Test.YtpgncmoagmkcmaaProg
import Derived.Test.YtpgncmoagmkcmaaApp
import Derived.ProofKit
namespace Go.Proofs.Ytpgncmoagmkcmaa
open Go.RowKit
theorem u8T : Try.prog.underlying 22 = some (.slice 5) := Try.underlying22
theorem u8I : elemInfo Try.prog 5 .u8 1 := by unfold elemInfo; kernel_rfl
end Go.Proofs.Ytpgncmoagmkcmaa
