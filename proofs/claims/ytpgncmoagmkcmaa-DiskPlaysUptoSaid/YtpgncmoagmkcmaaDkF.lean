/- disk: Bytes, Shape, Reads. -/
import Derived.Test.YtpgncmoagmkcmaaDkC
import Derived.BigQuiet
import Derived.Deep.QuietTactic
namespace Go.Proofs.Ytpgncmoagmkcmaa
open Go.RowKit
set_option linter.unusedSimpArgs false in
set_option linter.unusedVariables false in
set_option maxRecDepth 100000 in
set_option maxHeartbeats 2000000 in
theorem reads_any (Z : Nat → Prop) (d : Nat) (st : Dk) (w : World) (h : DkIn w Z d st) :
    Calls Try.prog 43 #[.pointer (some ⟨d, 0, none⟩)] w fun e w' => e = .returned (.int .i64 st.reads) ∧ w = w' := by
  obtain ⟨hz, kb, mb, pv, kv, vals, pvs, p⟩ := h
  obtain ⟨c0, c1, c2, c3, c4, c5, c6, c7, c8, cf⟩ := cellsD p.row
  clear p
  go_enter Try.func43, Try.ntmps43
  go_wp2
  go_ret
  exact ⟨rfl, rfl⟩
set_option linter.unusedSimpArgs false in
set_option linter.unusedVariables false in
set_option maxRecDepth 100000 in
set_option maxHeartbeats 2000000 in
theorem shape_any (Z : Nat → Prop) (d : Nat) (st : Dk) (w : World) (h : DkIn w Z d st) :
    Calls Try.prog 24 #[.pointer (some ⟨d, 0, none⟩)] w fun e w' => e = .returned (.tuple #[.int .i64 st.kept.length, .int .i64 st.size]) ∧ Below w.heap.size w w' := by
  obtain ⟨hz, kb, mb, pv, kv, vals, pvs, p⟩ := h
  obtain ⟨c0, c1, c2, c3, c4, c5, c6, c7, c8, cf⟩ := cellsD p.row
  clear p
  go_enter Try.func24, Try.ntmps24
  go_wp2_with fail
  go_quiet (fail)
  go_wp2_with fail
  go_ret2
  exact ⟨rfl, ⟨rfl, rfl, rfl, Nat.le_refl _, fun _ _ => rfl⟩⟩
set_option linter.unusedSimpArgs false in
set_option linter.unusedVariables false in
set_option maxRecDepth 100000 in
set_option maxHeartbeats 2000000 in
theorem all_any (Z : Nat → Prop) (d : Nat) (st : Dk) (w : World) (h : DkIn w Z d st) :
    Calls Try.prog 21 #[.pointer (some ⟨d, 0, none⟩)] w (GivesBytes st.kept.flatten w) := by
  have H := Lib.hid h
  obtain ⟨hz, kb, mb, pv, kv, vals, pvs, p⟩ := h
  obtain ⟨c0, c1, c2, c3, c4, c5, c6, c7, c8, cf⟩ := cellsD p.row
  have OK := Lib.hid p.ok
  obtain ⟨n, hn⟩ : ∃ n, st.kept.length = n := ⟨_, rfl⟩
  have HN := Lib.hid hn
  have hn2 : n ≤ 65536 := by rw [← hn]; exact p.ok.n.2
  rw [hn] at c4
  clear p hn
  go_enter Try.func21, Try.ntmps21
  go_wp2_with fail
  go_loopw [3, 10] (fun x i wr => ∃ k : Nat, k ≤ n ∧ i = .int .i64 k ∧ Owns .u8 5 wr w.heap.size x ((st.kept.take k).flatten) ∧ Hid (Below w.heap.size w wr)) (fun _ i _ => n - (intOf i).toNat)
  case atStart => exact ⟨0, by omega, rfl, Owns.nil _ _ _ _, Below.refl _ _⟩
  case round =>
    obtain ⟨k, hk, rfl, ho, hb⟩ := hrel
    by_cases hkm : k < n
    · have dkm : decide ((k : Int) < n) = true := decide_eq_true (by omega)
      have hkl : k < st.kept.length := by rw [HN.out]; exact hkm
      have hsum : ∀ j, ((st.kept.take j).flatten).length ≤ j * 4096 := by
        intro j
        have key : ∀ (L : List (List Int)), (∀ x ∈ L, x.length ≤ 4096) → L.flatten.length ≤ L.length * 4096 := by
          intro L hL
          induction L with
          | nil => simp
          | cons a r ih =>
            rw [List.flatten_cons, List.length_append, List.length_cons]
            have h1 := hL a (by simp)
            have h2 := ih (fun x hx => hL x (by simp [hx]))
            omega
        have h1 := key (st.kept.take j) (fun x hx => by
          rw [OK.out.kept x (List.mem_of_mem_take hx)]
          exact OK.out.size.2)
        have h2 : (st.kept.take j).length ≤ j := by rw [List.length_take]; omega
        have h3 : (st.kept.take j).length * 4096 ≤ j * 4096 := Nat.mul_le_mul_right _ h2
        omega
      have hs := hsum k
      have hs1 : (st.kept[k]).length ≤ 4096 := by
        rw [OK.out.kept _ (List.getElem_mem hkl)]
        exact OK.out.size.2
      have hfl : (st.kept.take (k + 1)).flatten = (st.kept.take k).flatten ++ st.kept[k] := by
        rw [List.take_succ_eq_append_getElem hkl, List.flatten_append]
        simp
      have HFL := Lib.hid hfl
      have hgk : (st.kept[k]?).getD [] = st.kept[k] := by rw [List.getElem?_eq_getElem hkl]; rfl
      have HGK := Lib.hid hgk
      have HOK := Lib.hid ho
      clear hfl hgk hsum ho
      go_wp2_with fail
      refine (bytes_any Z d st k wr (H.out.below hb.out) hkl).mono ?_
      rintro e w2 ⟨v2, rfl, ho2, hb2⟩
      rw [HGK.out] at ho2
      have hlt : w.heap.size ≤ w2.heap.size := Nat.le_trans hb.out.size hb2.size
      have hown := HOK.out.below hb2
      obtain ⟨q, hq⟩ : ∃ q, (st.kept[k]).length = q := ⟨_, rfl⟩
      obtain ⟨a2, c2', hv2⟩ := ho2.shapeN q hq
      subst hv2
      have hrd := ho2.rd
      have HRD := Lib.hid hrd
      have HOW := Lib.hid hown
      have HB2 := Lib.hid hb2
      rw [hq] at hs1
      obtain ⟨q0, hq0⟩ : ∃ q0, ((st.kept.take k).flatten).length = q0 := ⟨_, rfl⟩
      obtain ⟨a0, c0', hv0⟩ := hown.shapeN q0 hq0
      rw [hq0] at hs
      have HQ0 := Lib.hid hq0
      subst hv0
      have HQ := Lib.hid hq
      clear ho2 hrd hown hb2 hq hq0
      go_wp2_with (at_builtin; refine app_all u8T u8I (by decide) rfl (.tmp 13) (.tmp 16) rfl _ w.heap.size _ _ rfl HOW.out _ _ _ _ rfl HRD.out (by rw [HQ0.out]; omega) (by omega) ?_; intro v3 w3 ho3 hg3; rw [← HFL.out] at ho3; have HB3 := Lib.hid ((Below.call hb.out HB2.out).trans (hg3.below (by omega) (fun g hg => (HOW.out.at_base g hg).1))); have HO3 := Lib.hid ho3; obtain ⟨a3, c3, rfl⟩ := ho3.shapeN (q0 + q) (by rw [HFL.out, List.length_append, HQ0.out, HQ.out]); clear ho3 hg3)
      go_roundw
      case rel => exact ⟨k + 1, by omega, by go_num, HO3.out, HB3⟩
      case measure => simp [intOf] <;> omega
    · obtain rfl : k = n := by omega
      have hfl : (st.kept.take k).flatten = st.kept.flatten := by rw [← HN.out, List.take_length]
      rw [hfl] at ho
      have HO := Lib.hid ho
      obtain ⟨a2, q, c2', hv⟩ : ∃ a n c, u3 = Value.slice a n c := by obtain ⟨a, c, h⟩ := ho.shape; exact ⟨a, _, c, h⟩
      subst hv
      clear ho hfl
      go_wp2_with fail
      go_ret
      exact ⟨_, rfl, HO.out, hb.out⟩
end Go.Proofs.Ytpgncmoagmkcmaa
