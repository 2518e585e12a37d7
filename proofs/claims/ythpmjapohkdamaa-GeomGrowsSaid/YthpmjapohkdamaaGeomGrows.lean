/- GeomGrows: all cases as the arguments come. -/
import Derived.Test.YthpmjapohkdamaaGrows
import Derived.OpenShut
namespace Go.Proofs.Ythpmjapohkdamaa
open Go.RowKit
theorem geomGrows_walk (a0 a1 a2 a3 a4 a5 a6 a7 a8 m : Int) (w : World) (_ : (Lit.int .i64 m).wf = true) :
    Calls Try.prog 3 #[.agg #[.int .i64 a0, .int .i64 a1, .int .i64 a2, .int .i64 a3, .int .i64 a4, .int .i64 a5, .int .i64 a6, .int .i64 a7, .int .i64 a8], .int .i64 m] w fun e w' => e = .returned (.bool true) ∧ Below w.heap.size w w' := by
  cases hp : chkB a0 a1 a2 a3 a4 a5 a6 a7 a8 with
  | false => exact grows_no a0 a1 a2 a3 a4 a5 a6 a7 a8 m w hp
  | true =>
    by_cases h0 : 0 ≤ m
    · by_cases h1 : m ≤ 65536 - a0
      · exact grows_ok a0 a1 a2 a3 a4 a5 a6 a7 a8 m w hp h0 h1
      · exact grows_far a0 a1 a2 a3 a4 a5 a6 a7 a8 m w hp h0 (by omega)
    · exact grows_neg a0 a1 a2 a3 a4 a5 a6 a7 a8 m w hp (by omega)
end Go.Proofs.Ythpmjapohkdamaa
