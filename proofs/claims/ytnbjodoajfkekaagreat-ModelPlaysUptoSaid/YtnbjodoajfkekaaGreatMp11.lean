/- Whether two machines are the same (Same). -/
import Derived.Test.YtnbjodoajfkekaaGreatMu0
import Derived.Test.YtnbjodoajfkekaaGreatMp8
import Derived.Test.YtnbjodoajfkekaaGreatMu21
import Derived.Test.YtnbjodoajfkekaaGreatMp9
import Derived.WalkKit
import Derived.ProofKit
import Derived.BigQuiet
import Derived.Deep.QuietTactic
import Derived.Lib.Hide
import Derived.RegionTactic
namespace Go.Proofs.YtnbjodoajfkekaaGreat
open Go.RowKit
set_option linter.unusedSimpArgs false
/-- Two machines have the same in one's pages. -/
def PagesOk (st st2 s : Mc) : Prop := ∀ p, ∀ x ∈ s.ms p, pgB st.c.page (st.ms p) x.1 = pgB st2.c.page (st2.ms p) x.1
def SameP (st st2 : Mc) : Prop := st.c.page = st2.c.page ∧ pidsK st.v st.pr = pidsK st2.v st2.pr ∧ (∀ p ∈ pidsK st.v st.pr, st.rs p = st2.rs p) ∧ PagesOk st st2 st ∧ PagesOk st st2 st2
section
variable {No : Nat → Prop} {h h2 : McH} {st st2 : Mc} {w : World}
end
end Go.Proofs.YtnbjodoajfkekaaGreat
