/- The closed facts of this program's tables on []byte. -/
import Derived.Test.YtfoabnoolmeoiaaProg
import Derived.Test.YtfoabnoolmeoiaaApp
import Derived.ProofKit
namespace Go.Proofs.Ytfoabnoolmeoiaa
open Go.RowKit
set_option maxRecDepth 100000 in
theorem u8T : Try.prog.underlying 22 = some (.slice 5) := Try.underlying22
set_option maxRecDepth 100000 in
theorem u8I : elemInfo Try.prog 5 .u8 1 := by unfold elemInfo; kernel_rfl
end Go.Proofs.Ytfoabnoolmeoiaa
