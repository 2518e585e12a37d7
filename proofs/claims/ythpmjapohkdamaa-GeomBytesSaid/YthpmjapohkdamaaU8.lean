/- The closed facts of this program's tables on []byte. -/
import Derived.Test.YthpmjapohkdamaaProg
import Derived.Test.YthpmjapohkdamaaApp
import Derived.ProofKit
namespace Go.Proofs.Ythpmjapohkdamaa
open Go.RowKit
theorem u8T : Try.prog.underlying 38 = some (.slice 5) := Try.underlying38
theorem u8I : elemInfo Try.prog 5 .u8 1 := by unfold elemInfo; kernel_rfl
end Go.Proofs.Ythpmjapohkdamaa
