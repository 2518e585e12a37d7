/- The contracts of the table of bits: times, twice. -/
import Derived.Test.YtendhldpgkdhnaaSquareLaw
import Derived.Test.YtendhldpgkdhnaaSum
namespace Go.Proofs.Ytendhldpgkdhnaa
open Go.RowKit

set_option maxHeartbeats 400000 in
theorem times_any (g n : Nat) (v : BitVec 32) (w : World) (h : w.heap[g]? = some (.cells (sqA n) 47 (0, 0))) :
    Calls Try.prog 22 #[.pointer (some ⟨g, 0, none⟩), .int .u32 (rnum v)] w fun e w' => e = .returned (.int .u32 (rnum (bsN n v))) ∧ w = w' := by
  have hc : ∀ i, i < 32 → w.cell? ⟨g, i, none⟩ = some (.int .u32 (rnum (bsN n (bit1 i)))) := fun i hi => by rw [cell_of_row w _ _ _ _ _ h]; exact rowU_get _ _ hi
  have HC := Lib.hid hc
  have HP := Lib.hid (pick_all n v)
  clear hc h
  go_enter Try.func22, Try.ntmps22
  go_wp2
  go_loop [5, 7] (fun o i => ∃ k : Nat, k ≤ 32 ∧ i = .int .i64 k ∧ o = .int .u32 (rnum (pick32 (fun i => bsN n (bit1 i)) v k))) (fun _ i => 32 - (intOf i).toNat)
  case atStart => exact ⟨0, by omega, rfl, rfl⟩
  case round =>
    obtain ⟨k, hk, rfl, rfl⟩ := hrel
    by_cases hp : k < 32
    · have hc := HC.out k hp
      by_cases hb : v.getLsbD k = true
      · have ht := bit_yes hb
        have HS : Hid (pick32 (fun i => bsN n (bit1 i)) v (k + 1) = pick32 (fun i => bsN n (bit1 i)) v k ^^^ bsN n (bit1 k)) := by show _ = _; rw [pick32, if_pos hb]
        have HX := Lib.hid (xor_go (pick32 (fun i => bsN n (bit1 i)) v k) (bsN n (bit1 k)))
        clear hb
        go_wp2
        go_round
        case rel => exact ⟨k + 1, by omega, by go_num, by rw [HS.out, ← HX.out]⟩
        case measure => simp [intOf] <;> omega
      · have ht := bit_no hb
        have HS : Hid (pick32 (fun i => bsN n (bit1 i)) v (k + 1) = pick32 (fun i => bsN n (bit1 i)) v k) := by show _ = _; rw [pick32, if_neg hb]
        clear hb
        go_wp2
        go_round
        case rel => exact ⟨k + 1, by omega, by go_num, by rw [HS.out]⟩
        case measure => simp [intOf] <;> omega
    · obtain rfl : k = 32 := by omega
      go_wp2
      go_ret
      exact ⟨ret_int (by rw [HP.out]), rfl⟩

set_option maxRecDepth 100000 in
set_option maxHeartbeats 400000 in
theorem twice_any (g n : Nat) (w : World) (h : w.heap[g]? = some (.cells (sqA n) 47 (0, 0))) :
    Calls Try.prog 21 #[.pointer (some ⟨g, 0, none⟩)] w fun e w' => e = .returned (.pointer (some ⟨w.heap.size, 0, none⟩)) ∧ w'.heap[w.heap.size]? = some (.cells (sqA (n + n)) 47 (0, 0)) ∧ Below w.heap.size w w' := by
  have hlt := (Array.getElem?_eq_some_iff.1 h).1
  have H := Lib.hid h
  clear h
  go_enter Try.func21, Try.ntmps21
  go_wp2
  go_loopw [5] (fun i wr => ∃ k : Nat, k ≤ 32 ∧ i = .int .i64 k ∧ wr.heap[w.heap.size]? = some (.cells (sqPart n k) 47 (0, 0)) ∧ Below w.heap.size w wr) (fun i _ => 32 - (intOf i).toNat)
  case atStart => exact ⟨0, by omega, rfl, heap_alloc_new _ _, (Below.refl _ _).alloc (Nat.le_refl _) _⟩
  case round =>
    obtain ⟨k, hk, rfl, hg, hb⟩ := hrel
    have hsz := (Array.getElem?_eq_some_iff.1 hg).1
    by_cases hp : k < 32
    · have hs := (hb.block g hlt).trans H.out
      have hc0 : wr.cell? ⟨g, k, none⟩ = some (.int .u32 (rnum (bsN n (bit1 k)))) := by rw [cell_of_row wr _ _ _ _ _ hs]; exact rowU_get _ _ hp
      have hc : wr.cell? ⟨w.heap.size, k, none⟩ = some (.int .u32 0) := by rw [cell_of_row wr _ _ _ _ _ hg]; exact (rowU_get _ _ hp).trans (by simp; rfl)
      have hf : wr.frozen? ⟨w.heap.size, k, none⟩ = false := frozen_of_row wr _ _ _ _ hg
      have HG := Lib.hid hg
      have HT := Lib.hid hs
      clear hg hs
      go_wp2_with (go_at_call 22; refine (times_any _ _ _ _ HT.out).mono ?_; rintro e w1 ⟨rfl, rfl⟩)
      go_roundw
      case rel => exact ⟨k + 1, by omega, by go_num, by rw [heap_setCell_same _ _ _ _ _ _ HG.out]; congr 2; exact sqPart_step n k, hb.setCell (by simp) _⟩
      case measure => simp [intOf] <;> omega
    · obtain rfl : k = 32 := by omega
      rw [sqPart_all] at hg
      have HG := Lib.hid hg
      clear hg
      go_wp2
      go_ret
      exact ⟨rfl, HG.out, hb⟩
end Go.Proofs.Ytendhldpgkdhnaa
