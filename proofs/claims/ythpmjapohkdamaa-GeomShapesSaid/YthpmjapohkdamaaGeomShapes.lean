/- GeomShapes: the walk, the arguments as they come. -/
import Derived.Test.YthpmjapohkdamaaGeomK
import Derived.OpenShut
namespace Go.Proofs.Ythpmjapohkdamaa
open Go.RowKit
theorem shapes_said (a0 a1 a2 a3 a4 a5 a6 a7 a8 k s b : Int) (w : World) (_ : (Lit.int .i64 k).wf = true) (hs : (Lit.int .i64 s).wf = true) (_ : (Lit.int .i64 b).wf = true) :
    Calls Try.prog 4 #[.agg #[.int .i64 a0, .int .i64 a1, .int .i64 a2, .int .i64 a3, .int .i64 a4, .int .i64 a5, .int .i64 a6, .int .i64 a7, .int .i64 a8], .int .i64 k, .int .i64 s, .int .i64 b] w fun e w' => e = .returned (.bool true) ∧ Below w.heap.size w w' := by
  have h := bounds_i64 hs
  exact geomShapes_walk _ _ _ _ _ _ _ _ _ k s b w (by omega) (by omega)
end Go.Proofs.Ythpmjapohkdamaa
