/- The law's few (items) and ints (two rows compared). -/
import Derived.Test.YtnlhpfcepbmbfaaOpenItem
import Derived.Deep.QuietTactic
import Derived.BigQuiet
import Derived.IntWalk
import Derived.Lib.Hide
namespace Go.Proofs.Ytnlhpfcepbmbfaa
open Go.RowKit
theorem sumItem_take {L : List ItemP} {k : Nat} {A : ItemP} (h : L[k]? = some A) : sumItem (L.take (k + 1)) = sumItem (L.take k) + (A.bs.length + A.ls.length) := by
  induction L generalizing k with
  | nil => simp at h
  | cons x r ih =>
    cases k with
    | zero => simp at h; subst h; simp [sumItem]
    | succ k => simp at h; rw [List.take_succ_cons, List.take_succ_cons, sumItem, sumItem, ih h]; omega
theorem sumItem_le {L : List ItemP} (k : Nat) : sumItem (L.take k) ≤ sumItem L := by
  induction L generalizing k with
  | nil => simp
  | cons x r ih =>
    cases k with
    | zero => simp [sumItem]
    | succ k => rw [List.take_succ_cons, sumItem, sumItem]; have := ih k; omega
theorem belowDN {B : Nat} {a w : World} (h : Below B a w) (n : Nat) : Below B a (w.drewN n) := ⟨h.os, h.tape, h.output, h.size, h.block⟩
set_option linter.unusedSimpArgs false in
set_option linter.unusedVariables false in
set_option maxRecDepth 100000 in
set_option maxHeartbeats 1000000 in
theorem ifew_any (a : Option Addr) (n c : Nat) (L : List ItemP) (w : World) (h : ItemsAt w a n L) (hb : sumItem L + n ≤ 1048576) :
    Calls Try.prog 21 #[.slice a n c] w fun e w' => e = .returned (.bool (decide ((sumItem L + n : Nat) ≤ (8192 : Int)))) ∧ Below w.heap.size w w' := by
  have H := Lib.hid h
  have HLN := Lib.hid h.len
  clear h
  go_enter Try.func21, Try.ntmps21
  go_wp2_with fail
  go_loopw [3, 4] (fun x i wr => ∃ (k s : Nat), k ≤ n ∧ i = .int .i64 k ∧ x = .int .i64 s ∧ Hid (s = sumItem (L.take k) + k) ∧ Hid (Below w.heap.size w wr)) (fun _ i _ => n - (intOf i).toNat)
  case atStart => exact ⟨0, 0, by omega, rfl, rfl, by show 0 = _; simp [sumItem], Below.refl _ _⟩
  case round =>
    obtain ⟨k, s, hk, rfl, rfl, HS, HB⟩ := hrel
    by_cases hkn : k < n
    · obtain ⟨A, hA⟩ : ∃ A, L[k]? = some A := ⟨_, List.getElem?_eq_getElem (by rw [HLN.out]; exact hkn)⟩
      obtain ⟨b, o, rfl, hat⟩ := H.out.at_ k A hA
      obtain ⟨⟨a2, n2, c2, a3, n3, c3, e0, e1, e2, e3, e4, e5, r2, r3⟩, hwf⟩ := hat
      have hlt : ∀ (i : Nat) (v : Value), w.cell? ⟨b, i, none⟩ = some v → wr.cell? ⟨b, i, none⟩ = some v := fun i v hv => by
        rw [← hv]; exact World.cell?_of_block (a := ⟨b, i, none⟩) (HB.out.block b (block_lt_of_cell hv))
      replace e2 := hlt _ _ e2
      replace e3 := hlt _ _ e3
      have hsk := sumItem_take hA
      have hle := sumItem_le (L := L) (k + 1)
      have l2 := r2.len
      have l3 := r3.len
      have hs0 := HS.out
      have HN : Hid (s + n2 + n3 + 1 = sumItem (L.take (k + 1)) + (k + 1)) := by show _ = _; omega
      have hbd : s + n2 + n3 + 1 ≤ 1048577 := by omega
      have g1 : IntKind.i64.wrap ((s : Int) + n2) = (s : Int) + n2 := by rw [IntKind.wrap_i64]; omega
      have g2 : IntKind.i64.wrap ((s : Int) + n2 + n3) = (s : Int) + n2 + n3 := by rw [IntKind.wrap_i64]; omega
      have g3 : IntKind.i64.wrap ((s : Int) + n2 + n3 + 1) = (s : Int) + n2 + n3 + 1 := by rw [IntKind.wrap_i64]; omega
      clear hA hlt hsk hle l2 l3 hs0 e0 e1 e4 e5 r2 r3 hwf
      go_wp2_with fail
      go_quiet (fail)
      go_wp2_with fail
      go_roundw
      case rel => exact ⟨k + 1, s + n2 + n3 + 1, by omega, by go_num, by go_num, HN, belowDN HB.out nq⟩
      case measure => simp [intOf] <;> omega
    · obtain rfl : k = n := by omega
      have hs0 := HS.out
      rw [List.take_of_length_le (by rw [HLN.out]; omega)] at hs0
      have HS0 := Lib.hid hs0
      clear hs0
      go_wp2_with fail
      go_ret
      exact ⟨congrArg (fun b => Ending.returned (.bool b)) (decide_eq_decide.2 (by have := HS0.out; omega)), HB.out⟩
set_option linter.unusedSimpArgs false in
set_option linter.unusedVariables false in
set_option maxRecDepth 100000 in
set_option maxHeartbeats 1000000 in
/-- Two equal rows. -/
theorem ints_same (a : Option Addr) (n c : Nat) (a' : Option Addr) (c' : Nat) (L : List Int) (w : World) (h : RdAt .i64 w a n c L) (h' : RdAt .i64 w a' n c' L) :
    Calls Try.prog 25 #[.slice a n c, .slice a' n c'] w fun e w' => e = .returned (.bool true) ∧ Below w.heap.size w w' := by
  have H := Lib.hid h
  have H' := Lib.hid h'
  have hmax := h.max
  have hcap := h.cap
  unfold maxLen at hmax
  clear h h'
  go_enter Try.func25, Try.ntmps25
  go_wp2_with fail
  go_loopw [5] (fun i wr => ∃ (k : Nat), k ≤ n ∧ i = .int .i64 k ∧ Hid (Below w.heap.size w wr)) (fun i _ => n - (intOf i).toNat)
  case atStart => exact ⟨0, by omega, rfl, Below.refl _ _⟩
  case round =>
    obtain ⟨k, hk, rfl, HB⟩ := hrel
    by_cases hkn : k < n
    · obtain ⟨b, o, rfl, hc⟩ := (H.out.below HB.out).cell k hkn
      obtain ⟨b', o', rfl, hc'⟩ := (H'.out.below HB.out).cell k hkn
      go_wp2_with fail
      go_quiet (fail)
      go_wp2_with fail
      go_roundw
      case rel => exact ⟨k + 1, by omega, by go_num, belowDN HB.out nq⟩
      case measure => simp [intOf] <;> omega
    · obtain rfl : k = n := by omega
      go_wp2_with fail
      go_ret
      exact ⟨rfl, HB.out⟩
end Go.Proofs.Ytnlhpfcepbmbfaa
