/- The walk of almanaclaw1.IntsUp: it answers true at every two numbers. -/
import Derived.Test.YtpaddiggieklfaaKnown1
namespace Go.Proofs.Ytpaddiggieklfaa
open Go.RowKit

theorem intsUp_walk (v to : Int) (w : World) (w0 : (Lit.int .i64 v).wf = true) (w1 : (Lit.int .i64 to).wf = true) :
    Calls Try.prog 4 #[.int .i64 v, .int .i64 to] w fun e w' => e = .returned (.bool true) ∧ Below w.heap.size w w' := by
  have hv := wf_i64_bd w0
  have ht := wf_i64_bd w1
  obtain ⟨hv1, hv2⟩ := hv
  obtain ⟨ht1, ht2⟩ := ht
  by_cases hok : upOk v to = true
  · have q : 0 ≤ v ∧ 1 ≤ to ∧ v ≤ 4611686018427387904 ∧ upMore v to ≤ 4611686018427387904 - v := by unfold upOk at hok; simpa using hok
    obtain ⟨q1, q2, q3, q4⟩ := q
    have b := upMore_bd v to q2
    obtain ⟨b1, b2⟩ := b
    have hm : ((v + upMore v to) % to == 0) = true := by
      unfold upMore
      simp only [beq_iff_eq]
      rw [Int.add_emod_emod, ← Int.sub_eq_add_neg, Int.emod_def v to]
      rw [show v - (v - to * (v / to)) = to * (v / to) by omega]
      exact Int.mul_emod_right _ _
    have hu := up_yes hok
    go_enter Try.func4, Try.ntmps4
    go_wp2_with (first | (go_at_call 10; refine (known1 _).mono ?_; rintro e w1 ⟨rfl, hb⟩) | (go_at_call 12; refine (up_any _ _ _ (by omega) (by omega)).mono ?_; rintro e w' ⟨rfl, rfl⟩))
    go_ret
    exact ⟨rfl, hb⟩
  · have hok' : upOk v to = false := by simpa using hok
    have q : ¬ (0 ≤ v ∧ 1 ≤ to ∧ v ≤ 4611686018427387904 ∧ upMore v to ≤ 4611686018427387904 - v) := by unfold upOk at hok; simpa using hok
    have hu := up_no hok'
    clear hok
    by_cases c1 : v < 0
    · clear q
      go_enter Try.func4, Try.ntmps4
      go_wp2_with (first | (go_at_call 10; refine (known1 _).mono ?_; rintro e w1 ⟨rfl, hb⟩) | (go_at_call 12; refine (up_any _ _ _ (by omega) (by omega)).mono ?_; rintro e w' ⟨rfl, rfl⟩))
      go_ret
      exact ⟨rfl, hb⟩
    by_cases c2 : to < 1
    · clear q
      go_enter Try.func4, Try.ntmps4
      go_wp2_with (first | (go_at_call 10; refine (known1 _).mono ?_; rintro e w1 ⟨rfl, hb⟩) | (go_at_call 12; refine (up_any _ _ _ (by omega) (by omega)).mono ?_; rintro e w' ⟨rfl, rfl⟩))
      go_ret
      exact ⟨rfl, hb⟩
    have b := upMore_bd v to (by omega)
    have c3 : 4611686018427387904 - to < v := by omega
    clear q b
    go_enter Try.func4, Try.ntmps4
    go_wp2_with (first | (go_at_call 10; refine (known1 _).mono ?_; rintro e w1 ⟨rfl, hb⟩) | (go_at_call 12; refine (up_any _ _ _ (by omega) (by omega)).mono ?_; rintro e w' ⟨rfl, rfl⟩))
    go_ret
    exact ⟨rfl, hb⟩
end Go.Proofs.Ytpaddiggieklfaa
