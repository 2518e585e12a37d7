/- The closed facts of this program's tables on []byte. -/
import Derived.Test.YtnlhpfcepbmbfaaProg
import Derived.Test.YtnlhpfcepbmbfaaApp
import Derived.ProofKit
namespace Go.Proofs.Ytnlhpfcepbmbfaa
open Go.RowKit
theorem u8T : Try.prog.underlying 22 = some (.slice 5) := Try.underlying22
theorem u8I : elemInfo Try.prog 5 .u8 1 := by unfold elemInfo; kernel_rfl
end Go.Proofs.Ytnlhpfcepbmbfaa
