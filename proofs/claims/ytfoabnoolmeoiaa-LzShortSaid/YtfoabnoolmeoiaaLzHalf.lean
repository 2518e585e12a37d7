/- bytes.Equal, lz's halves: their contracts. -/
import Derived.Test.YtfoabnoolmeoiaaLzLitC
import Derived.Test.YtfoabnoolmeoiaaStr
namespace Go.Proofs.Ytfoabnoolmeoiaa
open Go.RowKit
theorem str_iff {a b : List Int} (ha : Bytes a) (hb : Bytes b) : ((strOfNums a).toList == (strOfNums b).toList) = decide (a = b) := by
  by_cases h : a = b
  · subst h; simp
  · rw [decide_eq_false h, beq_eq_false_iff_ne]
    exact fun e => h (str_inj ha hb e)
set_option maxRecDepth 100000 in
set_option maxHeartbeats 1000000 in
theorem equal_any (a : Option Addr) (n c : Nat) (x : List Int) (a' : Option Addr) (n' c' : Nat) (y : List Int) (w : World) (h : RdAt .u8 w a n c x) (h' : RdAt .u8 w a' n' c' y) :
    Calls Try.prog 26 #[.slice a n c, .slice a' n' c'] w fun e w' => e = .returned (.bool (decide (x = y))) ∧ w = w' := by
  have k1 := conv_rd u8T s8 su h
  have k2 := conv_rd u8T s8 su h'
  have HI := Lib.hid (str_iff h.bytes h'.bytes)
  go_enter Try.func26, Try.ntmps26
  go_wp2
  go_ret
  exact ⟨by rw [HI.out]; rfl, rfl⟩
theorem one_owns (w : World) (x : Int) (hx : (Lit.int .u8 x).wf = true := by decide) : Owns .u8 5 (w.alloc (.cells #[.int .u8 x] 5)) w.heap.size (.slice (some ⟨w.heap.size, 0, none⟩) 1 1) [x] :=
  ⟨by simpa using hx, .inr ⟨rfl, .inr ⟨w.heap.size, 1, _, rfl, Nat.le_refl _, heap_alloc_new _ _, Nat.le_refl _, by unfold maxLen; omega, rfl, rfl⟩⟩⟩
set_option linter.unusedSimpArgs false in
set_option linter.unusedVariables false in
set_option maxRecDepth 100000 in
set_option maxHeartbeats 1000000 in
theorem halves_any (a : Option Addr) (n c : Nat) (b : List Int) (w : World) (h : RdAt .u8 w a n c b) (hn : n ≤ 100000) :
    Calls Try.prog 17 #[.slice a n c] w fun e w' => (∃ r l, e = .returned r ∧ Owns .u8 5 w' w.heap.size r l ∧ Hid ((halfOk b ∧ l = halfL b) ∨ (¬ halfOk b ∧ l = []))) ∧ Below w.heap.size w w' := by
  have hl := h.len
  have hcap := h.cap
  obtain ⟨m, hm⟩ : ∃ m, n / 2 = m := ⟨_, rfl⟩
  have e0 : (n : Int).tdiv 2 = m := by rw [Int.tdiv_eq_ediv_of_nonneg (by omega)]; omega
  have HM : Hid (b.length / 2 = m) := by show _ = _; omega
  by_cases p1 : m = 0
  · subst p1
    have HN : Hid (¬ halfOk b) := by show ¬ _; unfold halfOk; intro h; omega
    clear h
    go_enter Try.func17, Try.ntmps17
    go_wp2
    go_quiet (fail)
    go_wp2
    go_ret
    exact ⟨⟨_, [], rfl, Owns.nil _ _ _ _, .inr ⟨HN.out, rfl⟩⟩, belowN (Below.refl _ _) _⟩
  · have e1 : ((m : Int) == 0) = false := beq_eq_false_iff_ne.2 (by omega)
    obtain ⟨g, o, rfl, _⟩ := h.cell 0 (by omega)
    by_cases p2 : n % 2 = 1
    · have e2 : ((n : Int).tmod 2) = 1 := by rw [Int.tmod_eq_emod_of_nonneg (by omega)]; omega
      have HN : Hid (¬ halfOk b) := by show ¬ _; unfold halfOk; intro h; omega
      clear h
      go_enter Try.func17, Try.ntmps17
      go_wp2
      go_quiet (fail)
      go_wp2
      go_ret
      exact ⟨⟨_, [], rfl, Owns.nil _ _ _ _, .inr ⟨HN.out, rfl⟩⟩, belowN (Below.refl _ _) _⟩
    · have e2 : ((n : Int).tmod 2) = 0 := by rw [Int.tmod_eq_emod_of_nonneg (by omega)]; omega
      have r1 := h.part 0 m m (by omega) (by omega) (by omega)
      have r2 := h.part m (n - m) (c - m) (by omega) (by omega) (by omega)
      rw [Nat.add_zero, List.drop_zero] at r1
      rw [List.take_of_length_le (by rw [List.length_drop]; omega)] at r2
      have R1 := Lib.hid r1
      have R2 := Lib.hid r2
      have hc : ¬ c = m := by omega
      have hEq : ∀ v, decide (b.take m = b.drop m) = v → ∀ nq, Calls Try.prog 26 #[.slice (some ⟨g, o, none⟩) m m, .slice (some ⟨g, o + m, none⟩) (n - m) (c - m)] (w.drewN nq) fun e w'' => e = .returned (.bool v) ∧ ∃ k, w'' = w.drewN k := by
        intro v hv nq
        refine (equal_any _ _ _ _ _ _ _ _ _ (R1.out.below (belowN (Below.refl _ _) _)) (R2.out.below (belowN (Below.refl _ _) _))).mono ?_
        rintro e w' ⟨rfl, rfl⟩
        exact ⟨by rw [hv], _, rfl⟩
      have HEQ := Lib.hid hEq
      clear hEq
      by_cases p3 : b.take m = b.drop m
      · have HN : Hid (halfOk b) := by show halfOk b; unfold halfOk; rw [HM.out]; exact ⟨p1, by omega, p3⟩
        have HC := Lib.hid (HEQ.out true (decide_eq_true p3))
        have HV : Hid (halfL b = copL (litL [1] (b.take m)) m m) := by show _ = _; unfold halfL; rw [HM.out]
        clear h r1 r2 p3 HEQ
        go_enter Try.func17, Try.ntmps17
        go_wp2
        go_quiet ((go_at_call 26; exact HC.out _))
        go_wp2_with fail
        refine (literal_any (w.drewN _).heap.size (some ⟨_, 0, none⟩) 1 1 [1] _ m m _ _ (one_owns _ _) (by simp) ((R1.out.below (belowN (Below.refl _ _) _)).alloc _) (by omega) (by omega)).mono ?_
        rintro e w2 ⟨⟨v2, rfl, ho2⟩, hb2⟩
        have hb3 : Below w.heap.size w w2 := Below.call ((belowN (Below.refl w.heap.size w) _).alloc (Nat.le_refl _) _) hb2
        obtain ⟨q, hq⟩ : ∃ q, (litL [1] (b.take m)).length = q := ⟨_, rfl⟩
        have hql : q ≤ 100020 := by
          have := varF_len 9 (2 * ((b.take m).length : Int))
          have := List.length_take_le m b
          rw [← hq]; unfold litL litT'; split
          · simp
          · simp only [List.length_append, List.length_cons, List.length_nil]; omega
        obtain ⟨a2, c2, rfl⟩ := ho2.shapeN q hq
        have hrd2 := ho2.rd
        clear ho2 hq
        go_wp2_with fail
        refine (copied_any w.heap.size _ _ _ _ m m _ hrd2 hb3.size (by omega) (by omega) (by omega)).mono ?_
        rintro e w3 ⟨⟨v3, rfl, ho3⟩, hb4⟩
        obtain ⟨q3, hq3⟩ : ∃ q, (copL (litL [1] (b.take m)) m m).length = q := ⟨_, rfl⟩
        obtain ⟨a3, c3, rfl⟩ := ho3.shapeN q3 hq3
        have HO3 := Lib.hid ho3
        clear ho3 hq3
        go_wp2_with fail
        go_ret
        exact ⟨⟨_, _, rfl, HO3.out, .inl ⟨HN.out, HV.out.symm⟩⟩, Below.call hb3 hb4⟩
      · have HN : Hid (¬ halfOk b) := by show ¬ halfOk b; unfold halfOk; rw [HM.out]; exact fun hh => p3 hh.2.2
        have HC := Lib.hid (HEQ.out false (decide_eq_false p3))
        clear h r1 r2 p3 HEQ
        go_enter Try.func17, Try.ntmps17
        go_wp2
        go_quiet ((go_at_call 26; exact HC.out _))
        go_wp2
        go_ret
        exact ⟨⟨_, [], rfl, Owns.nil _ _ _ _, .inr ⟨HN.out, rfl⟩⟩, belowN (Below.refl _ _) _⟩
end Go.Proofs.Ytfoabnoolmeoiaa
