/- lz's literal, copied: their contracts. -/
import Derived.Test.YtfoabnoolmeoiaaLzSame
namespace Go.Proofs.Ytfoabnoolmeoiaa
open Go.RowKit
set_option linter.unusedSimpArgs false in
set_option linter.unusedVariables false in
set_option maxRecDepth 100000 in
set_option maxHeartbeats 1000000 in
theorem literal_any (base : Nat) (a : Option Addr) (n c : Nat) (lo : List Int) (a' : Option Addr) (m c' : Nat) (l : List Int) (w : World) (ho : Owns .u8 5 w base (.slice a n c) lo) (hb : base ≤ w.heap.size) (hr : RdAt .u8 w a' m c' l) (hn : n ≤ 100000000) (hm : m ≤ 100000000) :
    Calls Try.prog 25 #[.slice a n c, .slice a' m c'] w fun e w' => (∃ r, e = .returned r ∧ Owns .u8 5 w' base r (litL lo l)) ∧ Below w.heap.size w w' := by
  have hl := hr.len
  by_cases h0 : m = 0
  · subst h0
    have e1 : ((0 : Nat) : Int) = 0 := rfl
    have HO : Hid (Owns .u8 5 w base (.slice a n c) (litL lo l)) := by show Owns _ _ _ _ _ _; unfold litL; rw [if_pos hl]; exact ho
    clear ho hr
    go_enter Try.func25, Try.ntmps25
    go_wp2
    go_ret
    exact ⟨⟨_, rfl, HO.out⟩, Below.refl _ _⟩
  · have e1 : ((m : Int) == 0) = false := beq_eq_false_iff_ne.2 (by omega)
    have e2 : IntKind.u64.wrap (m : Int) = m := IntWalk.u64_in _ (by omega)
    have e3 : IntKind.u64.wrap ((m : Int) * 2) = 2 * (m : Int) := by rw [IntWalk.u64_in _ (by omega)]; omega
    have hv := varF_len 9 (2 * (m : Int))
    have HE : Hid (litL lo l = (lo ++ varF 9 (2 * (m : Int))) ++ l) := by show _ = _; unfold litL litT'; rw [if_neg (by omega), hl, List.append_assoc]
    have HR := Lib.hid hr
    have hlo := ho.rd.len
    have hrd := ho.rd
    clear ho hr
    go_enter Try.func25, Try.ntmps25
    go_wp2_with fail
    refine (var_any _ _ _ _ (2 * (m : Int)) _ hrd (by omega) (by omega) (by omega)).mono ?_
    rintro e w1 ⟨r, rfl, h1, hb1⟩
    have hr1 := HR.out.below hb1
    have h2 := h1.mono hb
    obtain ⟨q, hq⟩ : ∃ q, (lo ++ varF 9 (2 * (m : Int))).length = q := ⟨_, rfl⟩
    have hq2 : q ≤ 100000010 := by rw [← hq, List.length_append]; omega
    obtain ⟨a1, c1, rfl⟩ := h1.shapeN q hq
    go_wp2_with (at_builtin; refine app_all u8T u8I (by decide) rfl (.tmp 14) (.tmp 15) rfl _ w.heap.size _ _ rfl h1 _ _ _ l rfl hr1 (by rw [hq]; omega) hb1.size ?_; intro x2 w2 ho2 hg2)
    go_ret
    refine ⟨⟨_, rfl, by rw [HE.out]; exact ho2.mono hb⟩, hb1.trans (hg2.below hb1.size (fun g hg => (h1.at_base g hg).1))⟩
set_option linter.unusedSimpArgs false in
set_option linter.unusedVariables false in
set_option maxRecDepth 100000 in
set_option maxHeartbeats 1000000 in
theorem copied_any (base : Nat) (a : Option Addr) (n c : Nat) (lo : List Int) (k d : Nat) (w : World) (ho : RdAt .u8 w a n c lo) (hb : base ≤ w.heap.size) (hn : n ≤ 100000000) (hk : k ≤ 100000000) (hd : d ≤ 100000000) :
    Calls Try.prog 24 #[.slice a n c, .int .i64 k, .int .i64 d] w fun e w' => (∃ r, e = .returned r ∧ Owns .u8 5 w' base r (copL lo k d)) ∧ Below w.heap.size w w' := by
  have e2 : IntKind.u64.wrap (k : Int) = k := IntWalk.u64_in _ (by omega)
  have e3 : IntKind.u64.wrap ((k : Int) * 2) = 2 * (k : Int) := by rw [IntWalk.u64_in _ (by omega)]; omega
  have e4 : bits .or .u64 (2 * (k : Int)) 1 = 2 * (k : Int) + 1 := by
    exact u64_join (2 * (k : Int)) 1 1 (by omega) (by omega) (by omega) (by omega) (by omega) (by omega)
  have e5 : IntKind.u64.wrap (d : Int) = d := IntWalk.u64_in _ (by omega)
  have hv := varF_len 9 (2 * (k : Int) + 1)
  have HE : Hid (copL lo k d = (lo ++ varF 9 (2 * (k : Int) + 1)) ++ varF 9 (d : Int)) := by show _ = _; unfold copL copT; rw [List.append_assoc]
  have hlo := ho.len
  have HO := Lib.hid ho
  clear ho
  go_enter Try.func24, Try.ntmps24
  go_wp2_with fail
  refine (var_any _ _ _ _ (2 * (k : Int) + 1) _ HO.out (by omega) (by omega) (by omega)).mono ?_
  rintro e w1 ⟨r, rfl, h1, hb1⟩
  obtain ⟨q, hq⟩ : ∃ q, (lo ++ varF 9 (2 * (k : Int) + 1)).length = q := ⟨_, rfl⟩
  have hq2 : q ≤ 100000010 := by rw [← hq, List.length_append]; omega
  obtain ⟨a1, c1, rfl⟩ := h1.shapeN q hq
  have hrd := h1.rd
  go_wp2_with fail
  refine (var_any _ _ _ _ (d : Int) _ hrd (by omega) (by omega) (by omega)).mono ?_
  rintro e w2 ⟨r, rfl, h2, hb2⟩
  obtain ⟨q2, hq3⟩ : ∃ q2, (lo ++ varF 9 (2 * (k : Int) + 1) ++ varF 9 (d : Int)).length = q2 := ⟨_, rfl⟩
  obtain ⟨a2, c2, rfl⟩ := h2.shapeN q2 hq3
  go_wp2_with fail
  go_ret
  exact ⟨⟨_, rfl, by rw [HE.out]; exact h2.mono (Nat.le_trans hb hb1.size)⟩, Below.call hb1 hb2⟩
end Go.Proofs.Ytfoabnoolmeoiaa
