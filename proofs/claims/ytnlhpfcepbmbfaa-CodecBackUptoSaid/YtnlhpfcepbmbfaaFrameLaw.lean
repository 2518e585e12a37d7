/- A frame is read as what was framed; a burst in it, or its front, is refused: plain laws. No program in sight. -/
import Derived.Test.YtnlhpfcepbmbfaaFrame
namespace Go.Proofs.Ytnlhpfcepbmbfaa
open Go.RowKit
theorem head_len (k : Int) (n : Nat) : (headL k n).length = 5 := by unfold headL; rw [List.length_cons, putL_len]
theorem head_bytes {k : Int} (hk : 0 ≤ k ∧ k ≤ 255) (n : Nat) : Bytes (headL k n) := by
  intro x hx
  unfold headL at hx
  rcases List.mem_cons.1 hx with hx | hx
  · rw [hx]; exact hk
  · exact putL_bytes _ _ x hx
theorem frame_bytes {k : Int} (hk : 0 ≤ k ∧ k ≤ 255) {l : List Int} (hl : Bytes l) : Bytes (frameL k l) := by
  intro x hx
  unfold frameL at hx
  rcases List.mem_append.1 hx with hx | hx
  · exact seal_bytes (head_bytes hk _) x hx
  · exact seal_bytes hl x hx
theorem sealed_head_len (k : Int) (n : Nat) : (sealL (headL k n)).length = 9 := by rw [seal_len, head_len]
theorem head_take (k : Int) (n : Nat) (b : List Int) : (sealL (headL k n) ++ b).take 9 = sealL (headL k n) := by
  rw [← sealed_head_len k n, List.take_left]
theorem head_drop (k : Int) (n : Nat) (b : List Int) : (sealL (headL k n) ++ b).drop 9 = b := by
  rw [← sealed_head_len k n, List.drop_left]
theorem head_five (k : Int) (n : Nat) (b : List Int) : (sealL (headL k n) ++ b).take 5 = headL k n := by
  unfold sealL
  rw [List.append_assoc, ← head_len k n, List.take_left]
theorem head_get (k : Int) (n : Nat) (b : List Int) (hn : n ≤ 1048576) : getK (((sealL (headL k n) ++ b).take 5).drop 1) 4 = n := by
  rw [head_five]
  unfold headL
  rw [List.drop_one, List.tail_cons, getK_putL _ _ (by omega) 4 (Nat.le_refl _)]
  exact Int.emod_eq_of_lt (by omega) (by show (n : Int) < 4294967296; omega)
/-- What is read of a sound head and whatever stands behind it. -/
theorem read_head (k : Int) (n : Nat) (b : List Int) (hn : n ≤ 1048576) : frameE (sealL (headL k n) ++ b) = if b.length < n + 4 then 21 else if openOk (b.take (n + 4)) = true then 0 else 23 := by
  unfold frameE
  rw [head_take, head_get k n b hn, head_drop, List.length_append, sealed_head_len, if_neg (by omega), if_pos (open_seal _), if_neg (by omega), Int.toNat_natCast]
  by_cases h : b.length < n + 4
  · rw [if_pos h, if_pos (by omega)]
  · rw [if_neg h, if_neg (by omega)]
theorem read_frame (k : Int) (l more : List Int) (hn : l.length ≤ 1048576) : frameE (frameL k l ++ more) = 0 ∧ frameP (frameL k l ++ more) = l ∧ frameK (frameL k l ++ more) = k ∧ frameN (frameL k l ++ more) = 13 + (l.length : Int) := by
  have e0 : frameE (frameL k l ++ more) = 0 := by
    unfold frameL
    rw [List.append_assoc, read_head _ _ _ hn, List.length_append, seal_len, if_neg (by omega), ← seal_len l, List.take_left, if_pos (open_seal _)]
  refine ⟨e0, ?_, ?_, ?_⟩
  · unfold frameP
    rw [if_pos e0]
    unfold frameL
    rw [List.append_assoc, head_get _ _ _ hn, head_drop, Int.toNat_natCast]
    unfold sealL
    rw [List.append_assoc, List.take_left]
  · unfold frameK
    rw [if_pos e0]
    rfl
  · unfold frameN
    rw [if_pos e0]
    unfold frameL
    rw [List.append_assoc, head_get _ _ _ hn]
theorem read_whole (k : Int) (l : List Int) (hn : l.length ≤ 1048576) : frameE (frameL k l) = 0 := by
  have := (read_frame k l [] hn).1
  rwa [List.append_nil] at this
/-- A burst in the head alone. -/
theorem burst_head {k : Int} (hk : 0 ≤ k ∧ k ≤ 255) (n : Nat) (b : List Int) (bit : Int) (p : BitVec 32) (hne : burstV (sealL (headL k n)) bit p ≠ sealL (headL k n)) : frameE (burstV (sealL (headL k n)) bit p ++ b) = 23 := by
  have hf := burst_found _ (seal_bytes (head_bytes hk n)) bit p (st_sealed _) hne
  have hl : (burstV (sealL (headL k n)) bit p).length = 9 := by rw [burstV_len, sealed_head_len]
  unfold frameE
  rw [List.length_append, hl, if_neg (by omega), show (burstV (sealL (headL k n)) bit p ++ b).take 9 = burstV (sealL (headL k n)) bit p by rw [← hl, List.take_left], hf]
  rfl
/-- A burst behind the head alone. -/
theorem burst_tail (k : Int) {l : List Int} (hl : Bytes l) (hn : l.length ≤ 1048576) (bit : Int) (p : BitVec 32) (hne : burstV (sealL l) bit p ≠ sealL l) : frameE (sealL (headL k l.length) ++ burstV (sealL l) bit p) = 23 := by
  have hf := burst_found _ (seal_bytes hl) bit p (st_sealed _) hne
  have hbl : (burstV (sealL l) bit p).length = l.length + 4 := by rw [burstV_len, seal_len]
  rw [read_head _ _ _ hn, hbl, if_neg (by omega), ← hbl, List.take_length, hf]
  rfl
/-- A front that is not whole. -/
theorem read_front (k : Int) (l : List Int) (hn : l.length ≤ 1048576) (c : Nat) (hc : c < 13 + l.length) : frameE ((frameL k l).take c) = 21 := by
  by_cases h9 : c < 9
  · unfold frameE
    rw [if_pos (by rw [List.length_take]; omega)]
  · have e : (frameL k l).take c = sealL (headL k l.length) ++ (sealL l).take (c - 9) := by
      unfold frameL
      rw [List.take_append, sealed_head_len, List.take_of_length_le (by rw [sealed_head_len]; omega)]
    rw [e, read_head _ _ _ hn, if_pos (by rw [List.length_take, seal_len]; omega)]
end Go.Proofs.Ytnlhpfcepbmbfaa
