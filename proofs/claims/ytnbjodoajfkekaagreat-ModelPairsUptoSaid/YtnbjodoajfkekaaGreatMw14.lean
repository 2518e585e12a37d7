/- Both machines tell the same (Looks). -/
import Derived.Test.YtnbjodoajfkekaaGreatMv0
import Derived.Test.YtnbjodoajfkekaaGreatMw13
import Derived.Test.YtnbjodoajfkekaaGreatMv21
import Derived.Test.YtnbjodoajfkekaaGreatMv25
import Derived.WalkKit
import Derived.ProofKit
import Derived.BigQuiet
import Derived.Deep.QuietTactic
import Derived.Lib.Hide
import Derived.RegionTactic
namespace Go.Proofs.YtnbjodoajfkekaaGreat
open Go.RowKit
set_option linter.unusedSimpArgs false
section
variable {No No2:Nat→Prop} {h:McH} {hr:RmH} {st:Mc} {w:World}
end
end Go.Proofs.YtnbjodoajfkekaaGreat
