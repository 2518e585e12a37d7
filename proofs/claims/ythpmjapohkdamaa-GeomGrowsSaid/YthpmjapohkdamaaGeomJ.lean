/- Segment and K, whatever the shape. -/
import Derived.Test.YthpmjapohkdamaaGeomI
namespace Go.Proofs.Ythpmjapohkdamaa
open Go.RowKit
def segB (a0 a1 a2 a3 a4 a5 a6 a7 a8 k : Int) : Bool := chkB a0 a1 a2 a3 a4 a5 a6 a7 a8 && (decide (0 ≤ k) && decide (k < segN a0 a2 a3))
def segAt (a0 a1 a2 a3 a4 a5 a6 a7 a8 k : Int) : Int := if segB a0 a1 a2 a3 a4 a5 a6 a7 a8 k then 2 + a2 + k * a3 else 0
def segLen (a0 a1 a2 a3 a4 a5 a6 a7 a8 k : Int) : Int := if segB a0 a1 a2 a3 a4 a5 a6 a7 a8 k then a3 else 0
def segErr (a0 a1 a2 a3 a4 a5 a6 a7 a8 k : Int) : Int := if segB a0 a1 a2 a3 a4 a5 a6 a7 a8 k then 0 else 1
def kAll (a0 a1 a2 a3 a4 a5 a6 a7 a8 : Int) : Int := if chkB a0 a1 a2 a3 a4 a5 a6 a7 a8 then kN a0 a1 a2 a3 a4 else 0
theorem segment_all (a0 a1 a2 a3 a4 a5 a6 a7 a8 k : Int) (w : World) :
    Calls Try.prog 11 #[.agg #[.int .i64 a0, .int .i64 a1, .int .i64 a2, .int .i64 a3, .int .i64 a4, .int .i64 a5, .int .i64 a6, .int .i64 a7, .int .i64 a8], .int .i64 k] w fun e w' => e = .returned (.tuple #[.int .i64 (segAt a0 a1 a2 a3 a4 a5 a6 a7 a8 k), .int .i64 (segLen a0 a1 a2 a3 a4 a5 a6 a7 a8 k), .int .i64 (segErr a0 a1 a2 a3 a4 a5 a6 a7 a8 k)]) ∧ Below w.heap.size w w' := by
  unfold segAt segLen segErr segB
  cases hp : chkB a0 a1 a2 a3 a4 a5 a6 a7 a8 with
  | false => exact segment_no a0 a1 a2 a3 a4 a5 a6 a7 a8 k w hp
  | true =>
    by_cases h0 : 0 ≤ k
    · by_cases h1 : k < segN a0 a2 a3
      · rw [decide_eq_true h0, decide_eq_true h1]
        exact segment_ok a0 a1 a2 a3 a4 a5 a6 a7 a8 k w hp h0 h1
      · rw [decide_eq_false h1, Bool.and_false]
        exact segment_off a0 a1 a2 a3 a4 a5 a6 a7 a8 k w hp (by omega)
    · rw [decide_eq_false h0, Bool.false_and]
      exact segment_off a0 a1 a2 a3 a4 a5 a6 a7 a8 k w hp (by omega)
theorem refsegment_all (a0 a1 a2 a3 a4 a5 a6 a7 a8 k : Int) (w : World) :
    Calls Try.prog 12 #[.agg #[.int .i64 a0, .int .i64 a1, .int .i64 a2, .int .i64 a3, .int .i64 a4, .int .i64 a5, .int .i64 a6, .int .i64 a7, .int .i64 a8], .int .i64 k] w fun e w' => e = .returned (.tuple #[.int .i64 (segAt a0 a1 a2 a3 a4 a5 a6 a7 a8 k), .int .i64 (segLen a0 a1 a2 a3 a4 a5 a6 a7 a8 k), .int .i64 (segErr a0 a1 a2 a3 a4 a5 a6 a7 a8 k)]) ∧ Below w.heap.size w w' := by
  unfold segAt segLen segErr segB
  cases hp : chkB a0 a1 a2 a3 a4 a5 a6 a7 a8 with
  | false => exact refsegment_no a0 a1 a2 a3 a4 a5 a6 a7 a8 k w hp
  | true =>
    by_cases h0 : 0 ≤ k
    · by_cases h1 : k < segN a0 a2 a3
      · rw [decide_eq_true h0, decide_eq_true h1]
        exact refsegment_ok a0 a1 a2 a3 a4 a5 a6 a7 a8 k w hp h0 h1
      · rw [decide_eq_false h1, Bool.and_false]
        exact refsegment_off a0 a1 a2 a3 a4 a5 a6 a7 a8 k w hp (by omega)
    · rw [decide_eq_false h0, Bool.false_and]
      exact refsegment_off a0 a1 a2 a3 a4 a5 a6 a7 a8 k w hp (by omega)
theorem k_all (a0 a1 a2 a3 a4 a5 a6 a7 a8 : Int) (w : World) :
    Calls Try.prog 10 #[.agg #[.int .i64 a0, .int .i64 a1, .int .i64 a2, .int .i64 a3, .int .i64 a4, .int .i64 a5, .int .i64 a6, .int .i64 a7, .int .i64 a8]] w fun e w' => e = .returned (.int .i64 (kAll a0 a1 a2 a3 a4 a5 a6 a7 a8)) ∧ Below w.heap.size w w' := by
  unfold kAll
  cases hp : chkB a0 a1 a2 a3 a4 a5 a6 a7 a8 with
  | false => exact k_no a0 a1 a2 a3 a4 a5 a6 a7 a8 w hp
  | true => exact k_any a0 a1 a2 a3 a4 a5 a6 a7 a8 w hp
theorem refk_all (a0 a1 a2 a3 a4 a5 a6 a7 a8 : Int) (w : World) :
    Calls Try.prog 14 #[.agg #[.int .i64 a0, .int .i64 a1, .int .i64 a2, .int .i64 a3, .int .i64 a4, .int .i64 a5, .int .i64 a6, .int .i64 a7, .int .i64 a8]] w fun e w' => e = .returned (.int .i64 (kAll a0 a1 a2 a3 a4 a5 a6 a7 a8)) ∧ Below w.heap.size w w' := by
  unfold kAll
  cases hp : chkB a0 a1 a2 a3 a4 a5 a6 a7 a8 with
  | false => exact refk_no a0 a1 a2 a3 a4 a5 a6 a7 a8 w hp
  | true => exact refk_any a0 a1 a2 a3 a4 a5 a6 a7 a8 w hp
end Go.Proofs.Ythpmjapohkdamaa
