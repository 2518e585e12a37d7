/- The contract of crc.half: the table of four bits. -/
import Derived.Test.YtnlhpfcepbmbfaaProg
import Derived.Test.YtnlhpfcepbmbfaaCrcLaw
import Derived.ProofKit
namespace Go.Proofs.Ytnlhpfcepbmbfaa
open Go.RowKit

def tabA (k : Nat) : Array Value := ((List.range 16).map fun i => Value.int .u32 (if i < k then rnum (tab i) else 0)).toArray
theorem tabA_size (k : Nat) : (tabA k).size = 16 := by simp [tabA]
theorem tabA_get (k i : Nat) (h : i < 16) : (tabA k)[i]? = some (.int .u32 (if i < k then rnum (tab i) else 0)) := by
  simp [tabA, h]
theorem tabA_set (k : Nat) : (tabA k).setIfInBounds k (.int .u32 (rnum (tab k))) = tabA (k + 1) := by
  apply Array.ext
  · simp [tabA]
  · intro i h1 h2
    have hi : i < 16 := by simpa [tabA] using h2
    rw [Array.getElem_setIfInBounds (by rw [tabA_size]; exact hi)]
    simp only [tabA, List.getElem_toArray, List.getElem_map, List.getElem_range]
    by_cases e : k = i
    · subst e; simp
    · rw [if_neg e]
      by_cases e2 : i < k
      · rw [if_pos e2, if_pos (by omega)]
      · rw [if_neg e2, if_neg (by omega)]
theorem tabA_one (k : Nat) : (tabA k).all (·.oneCell') = true := by
  simp [tabA, Value.oneCell']
theorem Below.setRow {B : Nat} {w W : World} (h : Below B w W) {g : Nat} (hg : B ≤ g) (cs : Array Value) : Below B w (W.setRow g cs) :=
  h.trans ⟨rfl, rfl, rfl, by simp, fun k hk => setRow_other _ _ _ _ (by omega)⟩
theorem u32_nat (k : Nat) (h : k < 4294967296) : rnum (BitVec.ofNat 32 k) = k := by
  unfold rnum; rw [BitVec.toNat_ofNat]; omega

set_option maxRecDepth 100000 in
set_option maxHeartbeats 400000 in
theorem half_any (w : World) : Calls Try.prog 72 #[] w fun e w' => e = .returned (.agg (tabA 16)) ∧ Below w.heap.size w w' := by
  go_enter Try.func72, Try.ntmps72
  go_wp2
  go_loopw [4] (fun i wr => ∃ k : Nat, k ≤ 16 ∧ i = .int .i64 k ∧ wr.heap[w.heap.size]? = some (.cells (tabA 0) 101 (0, 0)) ∧ wr.heap[w.heap.size + 1]? = some (.cells (tabA k) 101 (0, 0)) ∧ Below w.heap.size w wr) (fun i _ => 16 - (intOf i).toNat)
  case atStart => exact ⟨0, by omega, rfl, heap_alloc2_old _ _ _, heap_alloc2_new _ _ _, ((Below.refl _ _).alloc (Nat.le_refl _) _).alloc (by simp) _⟩
  case round =>
    obtain ⟨k, hk, rfl, hg0, hg1, hb⟩ := hrel
    have hsz := (Array.getElem?_eq_some_iff.1 hg1).1
    by_cases hp : k < 16
    · have hc : wr.cell? ⟨w.heap.size + 1, k, none⟩ = some (.int .u32 0) := by rw [cell_of_row wr _ _ _ _ _ hg1, tabA_get _ _ hp]; simp
      have hf : wr.frozen? ⟨w.heap.size + 1, k, none⟩ = false := frozen_of_row wr _ _ _ _ hg1
      have hu := Lib.hid (u32_nat k (by omega))
      have HG0 := Lib.hid hg0
      have HG1 := Lib.hid hg1
      clear hg0 hg1
      go_wp2
      go_loop [3, 9] (fun v j => ∃ q : Nat, q ≤ 4 ∧ j = .int .i64 q ∧ v = .int .u32 (rnum (bsN q (BitVec.ofNat 32 k)))) (fun _ j => 4 - (intOf j).toNat)
      case atStart => exact ⟨0, by omega, rfl, by rw [bsN, hu.out]⟩
      case round =>
        obtain ⟨q, hq, rfl, rfl⟩ := hrel
        by_cases hq4 : q < 4
        · have ha := and_one_go (bsN q (BitVec.ofNat 32 k))
          obtain ⟨ha1, ha2⟩ := ha
          have hs := Lib.hid (bs_go (bsN q (BitVec.ofNat 32 k)))
          go_wp2
          go_round
          case rel => exact ⟨q + 1, by omega, by go_num, by rw [hs.out, bsN_succ]⟩
          case measure => simp [intOf] <;> omega
        · obtain rfl : q = 4 := by omega
          go_wp2
          go_roundw
          case rel => exact ⟨k + 1, by omega, by go_num, by rw [heap_setCell_other _ _ _ _ (by simp)]; exact HG0.out, by rw [heap_setCell_same _ _ _ _ _ _ HG1.out]; congr 2; exact tabA_set k, hb.setCell (by simp) _⟩
          case measure => simp [intOf] <;> omega
    · obtain rfl : k = 16 := by omega
      go_wp2_with (first | (refine wpList_load_row rfl 101 _ rfl (w.heap.size + 1) rfl 101 (tabA 16) (0, 0) _ hg1 Try.underlying101 rfl (by kernel_rfl) ?_) | (refine wpList_store_row rfl 101 _ _ rfl w.heap.size (tabA 16) rfl rfl 101 (tabA 0) hg0 (by kernel_rfl) (by rw [tabA_size, tabA_size]) (tabA_one 16) ?_))
      refine bodyPost_ret (v := .agg (tabA 16)) (results_cell_row rfl _ _ w.heap.size 101 (tabA 16) (0, 0) _ rfl (setRow_heap wr w.heap.size _ _ _ _ hg0) Try.underlying101 rfl (by kernel_rfl)) rfl ⟨rfl, Below.setRow hb (Nat.le_refl _) _⟩
end Go.Proofs.Ytnlhpfcepbmbfaa
