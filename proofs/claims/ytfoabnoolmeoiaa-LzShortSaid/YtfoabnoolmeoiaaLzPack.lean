/- lz's Pack: its contract. -/
import Derived.Test.YtfoabnoolmeoiaaLzGreedy
import Derived.LoopN
namespace Go.Proofs.Ytfoabnoolmeoiaa
open Go.RowKit
set_option linter.unusedSimpArgs false in
set_option linter.unusedVariables false in
set_option maxRecDepth 100000 in
set_option maxHeartbeats 2000000 in
theorem pack_any (a : Option Addr) (n c : Nat) (b : List Int) (w : World) (hr : RdAt .u8 w a n c b) (hn : n ≤ 100000) :
    Calls Try.prog 13 #[.slice a n c] w fun e w' => (∃ r p, e = .returned r ∧ Owns .u8 5 w' w.heap.size r p ∧ Hid (PkOut b p)) ∧ Below w.heap.size w w' := by
  have HR := Lib.hid hr
  have hbl := hr.len
  have hr1 := hr.alloc (.cells #[.int .u8 0] 5)
  have ho0 := one_owns w 0
  clear hr
  go_enter Try.func13, Try.ntmps13
  go_wp2_with (at_builtin; refine app_all u8T u8I (by decide) rfl (.tmp 6) (.tmp 7) rfl _ w.heap.size _ [0] rfl ho0 _ _ _ b rfl hr1 (by simp; omega) (by simp) ?_; intro x1 w1 ho1 hg1; obtain ⟨a0, c0, rfl⟩ := ho1.shapeN (n + 1) (by rw [List.length_append]; simp; omega))
  have hb1 : Below w.heap.size w w1 := ((Below.refl w.heap.size w).alloc (Nat.le_refl _) _).trans (hg1.below (by simp) (fun g hg => (ho0.at_base g hg).1))
  refine (greedy_any a n c b w1 (HR.out.below hb1) hn).mono ?_
  rintro e w2 ⟨⟨r1, g, rfl, ho2, hgo⟩, hb2⟩
  obtain ⟨lg, hlg⟩ : ∃ x, g.length = x := ⟨_, rfl⟩
  obtain ⟨a1, c1, rfl⟩ := ho2.shapeN lg hlg
  have hb2' := Below.call hb1 hb2
  go_wp2_with fail
  refine (halves_any a n c b w2 (HR.out.below hb2') hn).mono ?_
  rintro e w3 ⟨⟨r2, h, rfl, ho3, hhh⟩, hb3⟩
  obtain ⟨lh, hlh⟩ : ∃ x, h.length = x := ⟨_, rfl⟩
  obtain ⟨a2, c2, rfl⟩ := ho3.shapeN lh hlh
  have hlg0 : 0 < lg := by obtain ⟨q, e, _⟩ := hgo.out.unp; rw [← hlg, e]; simp
  have HL0 : Hid (([0] ++ b).length = n + 1) := by show _ = _; simp; omega
  have HO0 : Hid (Owns .u8 5 (w3.alloc (.cells #[.slice a1 lg c1, .slice a2 lh c2] 22)) w.heap.size (.slice a0 (n + 1) c0) ([0] ++ b)) := ((ho1.below hb2).below hb3).alloc _
  have HO1 : Hid (Owns .u8 5 (w3.alloc (.cells #[.slice a1 lg c1, .slice a2 lh c2] 22)) w.heap.size (.slice a1 lg c1) g) := ((ho2.below hb3).mono hb1.size).alloc _
  have HO2 : Hid (Owns .u8 5 (w3.alloc (.cells #[.slice a1 lg c1, .slice a2 lh c2] 22)) w.heap.size (.slice a2 lh c2) h) := (ho3.mono hb2'.size).alloc _
  have HB : Hid (Below w.heap.size w (w3.alloc (.cells #[.slice a1 lg c1, .slice a2 lh c2] 22))) := (Below.call hb2' hb3).alloc (Below.call hb2' hb3).size _
  have HGO := Lib.hid hgo.out
  have HHH := Lib.hid hhh.out
  clear hgo hhh ho0 ho1 ho2 ho3 hb1 hb2 hb3 hb2' hg1 hr1
  go_wp2_with fail
  by_cases q1 : lg < n + 1
  · by_cases q2 : lh = 0
    · skip
      have d1 : decide ((0 : Int) < (lg : Int)) = true := decide_eq_true (by omega)
      have d2 : decide ((lg : Int) < (n : Int) + 1) = true := decide_eq_true (by omega)
      obtain rfl : lh = 0 := by omega
      refine wp_loop_rounds 3 ?_
      rw [rounds_succ]
      go_wp2_with fail
      rw [rounds_succ]
      go_wp2_with fail
      rw [rounds_succ]
      go_wp2_with fail
      go_ret
      refine ⟨⟨_, _, rfl, HO1.out, ?_⟩, HB.out⟩
      have hpk := pk_out (by omega) HGO.out HHH.out
      have e1 : lessL ([0] ++ b) g = g := by unfold lessL; rw [if_pos ⟨by omega, by rw [HL0.out]; omega⟩]
      have e2 : lessL (g) h = g := by unfold lessL; rw [if_neg (fun hh => by omega)]
      rw [e1, e2] at hpk
      exact hpk
    · by_cases q3 : lh < lg
      · skip
        have d1 : decide ((0 : Int) < (lg : Int)) = true := decide_eq_true (by omega)
        have d2 : decide ((lg : Int) < (n : Int) + 1) = true := decide_eq_true (by omega)
        have d3 : decide ((0 : Int) < (lh : Int)) = true := decide_eq_true (by omega)
        have d4 : decide ((lh : Int) < (lg : Int)) = true := decide_eq_true (by omega)
        refine wp_loop_rounds 3 ?_
        rw [rounds_succ]
        go_wp2_with fail
        rw [rounds_succ]
        go_wp2_with fail
        rw [rounds_succ]
        go_wp2_with fail
        go_ret
        refine ⟨⟨_, _, rfl, HO2.out, ?_⟩, HB.out⟩
        have hpk := pk_out (by omega) HGO.out HHH.out
        have e1 : lessL ([0] ++ b) g = g := by unfold lessL; rw [if_pos ⟨by omega, by rw [HL0.out]; omega⟩]
        have e2 : lessL (g) h = h := by unfold lessL; rw [if_pos ⟨by omega, by omega⟩]
        rw [e1, e2] at hpk
        exact hpk
      · skip
        have d1 : decide ((0 : Int) < (lg : Int)) = true := decide_eq_true (by omega)
        have d2 : decide ((lg : Int) < (n : Int) + 1) = true := decide_eq_true (by omega)
        have d3 : decide ((0 : Int) < (lh : Int)) = true := decide_eq_true (by omega)
        have d4 : decide ((lh : Int) < (lg : Int)) = false := decide_eq_false (by omega)
        refine wp_loop_rounds 3 ?_
        rw [rounds_succ]
        go_wp2_with fail
        rw [rounds_succ]
        go_wp2_with fail
        rw [rounds_succ]
        go_wp2_with fail
        go_ret
        refine ⟨⟨_, _, rfl, HO1.out, ?_⟩, HB.out⟩
        have hpk := pk_out (by omega) HGO.out HHH.out
        have e1 : lessL ([0] ++ b) g = g := by unfold lessL; rw [if_pos ⟨by omega, by rw [HL0.out]; omega⟩]
        have e2 : lessL (g) h = g := by unfold lessL; rw [if_neg (fun hh => by omega)]
        rw [e1, e2] at hpk
        exact hpk
  · by_cases q2 : lh = 0
    · skip
      have d1 : decide ((0 : Int) < (lg : Int)) = true := decide_eq_true (by omega)
      have d2 : decide ((lg : Int) < (n : Int) + 1) = false := decide_eq_false (by omega)
      obtain rfl : lh = 0 := by omega
      refine wp_loop_rounds 3 ?_
      rw [rounds_succ]
      go_wp2_with fail
      rw [rounds_succ]
      go_wp2_with fail
      rw [rounds_succ]
      go_wp2_with fail
      go_ret
      refine ⟨⟨_, _, rfl, HO0.out, ?_⟩, HB.out⟩
      have hpk := pk_out (by omega) HGO.out HHH.out
      have e1 : lessL ([0] ++ b) g = [0] ++ b := by unfold lessL; rw [if_neg (fun hh => by rw [HL0.out] at hh; omega)]
      have e2 : lessL ([0] ++ b) h = [0] ++ b := by unfold lessL; rw [if_neg (fun hh => by rw [HL0.out] at hh; omega)]
      rw [e1, e2] at hpk
      exact hpk
    · by_cases q3 : lh < n + 1
      · skip
        have d1 : decide ((0 : Int) < (lg : Int)) = true := decide_eq_true (by omega)
        have d2 : decide ((lg : Int) < (n : Int) + 1) = false := decide_eq_false (by omega)
        have d3 : decide ((0 : Int) < (lh : Int)) = true := decide_eq_true (by omega)
        have d4 : decide ((lh : Int) < ((n : Int) + 1)) = true := decide_eq_true (by omega)
        refine wp_loop_rounds 3 ?_
        rw [rounds_succ]
        go_wp2_with fail
        rw [rounds_succ]
        go_wp2_with fail
        rw [rounds_succ]
        go_wp2_with fail
        go_ret
        refine ⟨⟨_, _, rfl, HO2.out, ?_⟩, HB.out⟩
        have hpk := pk_out (by omega) HGO.out HHH.out
        have e1 : lessL ([0] ++ b) g = [0] ++ b := by unfold lessL; rw [if_neg (fun hh => by rw [HL0.out] at hh; omega)]
        have e2 : lessL ([0] ++ b) h = h := by unfold lessL; rw [if_pos ⟨by omega, by rw [HL0.out]; omega⟩]
        rw [e1, e2] at hpk
        exact hpk
      · skip
        have d1 : decide ((0 : Int) < (lg : Int)) = true := decide_eq_true (by omega)
        have d2 : decide ((lg : Int) < (n : Int) + 1) = false := decide_eq_false (by omega)
        have d3 : decide ((0 : Int) < (lh : Int)) = true := decide_eq_true (by omega)
        have d4 : decide ((lh : Int) < ((n : Int) + 1)) = false := decide_eq_false (by omega)
        refine wp_loop_rounds 3 ?_
        rw [rounds_succ]
        go_wp2_with fail
        rw [rounds_succ]
        go_wp2_with fail
        rw [rounds_succ]
        go_wp2_with fail
        go_ret
        refine ⟨⟨_, _, rfl, HO0.out, ?_⟩, HB.out⟩
        have hpk := pk_out (by omega) HGO.out HHH.out
        have e1 : lessL ([0] ++ b) g = [0] ++ b := by unfold lessL; rw [if_neg (fun hh => by rw [HL0.out] at hh; omega)]
        have e2 : lessL ([0] ++ b) h = [0] ++ b := by unfold lessL; rw [if_neg (fun hh => by rw [HL0.out] at hh; omega)]
        rw [e1, e2] at hpk
        exact hpk
end Go.Proofs.Ytfoabnoolmeoiaa
