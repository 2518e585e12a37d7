/- How many pages of a process two machines do not have alike (unlike). -/
import Derived.Test.YtnbjodoajfkekaaGreatMu0
import Derived.Test.YtnbjodoajfkekaaGreatMp8
import Derived.Test.YtnbjodoajfkekaaGreatMu21
import Derived.Test.YtnbjodoajfkekaaGreatMp9
import Derived.WalkKit
import Derived.ProofKit
import Derived.BigQuiet
import Derived.Deep.QuietTactic
import Derived.Lib.Hide
import Derived.RegionTactic
namespace Go.Proofs.YtnbjodoajfkekaaGreat
open Go.RowKit
set_option linter.unusedSimpArgs false
section
variable {No : Nat → Prop} {h h2 : McH} {st st2 : Mc} {w : World}
end
end Go.Proofs.YtnbjodoajfkekaaGreat
