/- The walk of almanaclaw1.IntsSigns: it answers true at every two numbers. -/
import Derived.Test.YtpaddiggieklfaaKnown1
namespace Go.Proofs.Ytpaddiggieklfaa
open Go.RowKit
set_option maxRecDepth 100000 in
theorem intsSigns_walk (v u : Int) (w : World) (w0 : (Lit.int .i64 v).wf = true) (w1 : (Lit.int .u64 u).wf = true) :
    Calls Try.prog 6 #[.int .i64 v, .int .u64 u] w fun e w' => e = .returned (.bool true) ∧ Below w.heap.size w w' := by
  obtain ⟨v1, v2⟩ := wf_i64_bd w0
  obtain ⟨u1, u2⟩ := wf_u64_bd w1
  go_enter Try.func6, Try.ntmps6
  go_wp2_with (first | (go_at_call 10; refine (known1 _).mono ?_; rintro e w1 ⟨rfl, hb⟩) | (go_at_call 19; refine (zig_any _ _ v1 v2).mono ?_; rintro e w' ⟨rfl, rfl⟩) | (go_at_call 20; refine (rzig_any _ _ v1 v2).mono ?_; rintro e w' ⟨rfl, rfl⟩) | (go_at_call 21; refine (zag_any _ _ u1 u2).mono ?_; rintro e w' ⟨rfl, rfl⟩) | (go_at_call 22; refine (rzag_any _ _ u1 u2).mono ?_; rintro e w' ⟨rfl, rfl⟩) | (go_at_call 23; refine (log_any _ _ u1 u2).mono ?_; rintro e w' ⟨rfl, rfl⟩) | (go_at_call 24; refine (rlog_any _ _ u1 u2).mono ?_; rintro e w' ⟨rfl, rfl⟩) | (go_at_call 25; refine (turn_any _ _ u1 u2).mono ?_; rintro e w' ⟨rfl, rfl⟩) | (go_at_call 26; refine (rturn_any _ _ u1 u2).mono ?_; rintro e w' ⟨rfl, rfl⟩))
  go_ret
  exact ⟨rfl, hb⟩
end Go.Proofs.Ytpaddiggieklfaa
