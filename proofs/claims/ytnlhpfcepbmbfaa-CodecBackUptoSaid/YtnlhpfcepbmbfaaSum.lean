/- The contract of crc.Sum: the sum of any parts. -/
import Derived.Test.YtnlhpfcepbmbfaaHalf
namespace Go.Proofs.Ytnlhpfcepbmbfaa
open Go.RowKit

/-- A slice of slices of bytes reads as the rows ls. -/
structure PartsAt (w : World) (a : Option Addr) (n : Nat) (ls : List (List Int)) : Prop where
  len : ls.length = n
  cell : ∀ i, i < n → ∃ b o ai ni ci, a = some ⟨b, o, none⟩ ∧ w.cell? ⟨b, o + i, none⟩ = some (.slice ai ni ci) ∧ RdAt .u8 w ai ni ci (ls.getD i [])
theorem PartsAt.below {w w' : World} {a : Option Addr} {n : Nat} {ls : List (List Int)} (h : PartsAt w a n ls) (hb : Below w.heap.size w w') : PartsAt w' a n ls :=
  ⟨h.len, fun i hi => by
    obtain ⟨b, o, ai, ni, ci, e, hc, hr⟩ := h.cell i hi
    exact ⟨b, o, ai, ni, ci, e, by rw [hb.cell (block_lt_of_cell hc)]; exact hc, hr.below hb⟩⟩

def lo4 (r : BitVec 32) : Nat := (r &&& 15#32).toNat
def mixB (r : BitVec 32) (c : Int) : BitVec 32 := r ^^^ byte c
theorem lo4_lt (r : BitVec 32) : lo4 r < 16 := and_15_lt r
theorem mix_go (r : BitVec 32) (c : Int) : bits .xor .u32 (rnum r) c = rnum (mixB r c) := by rw [u32_xor, ofInt_u32]; rfl
theorem lo4_go (r : BitVec 32) : bits .and .u32 (rnum r) 15 = (lo4 r : Int) := and_15 r
theorem nib_go (r : BitVec 32) : bits .xor .u32 (rnum r / 16) (rnum (tab (lo4 r))) = rnum (bsN 4 r) := tab_go r
theorem stB_nib (r : BitVec 32) (c : Int) : bsN 4 (bsN 4 (mixB r c)) = stB r c := (bsN_add 4 4 _).symm
theorem take_nth (l : List Int) (k : Nat) (h : k < l.length) : l.take (k + 1) = l.take k ++ [nth l k] := by
  rw [List.take_succ_eq_append_getElem h, nth_eq h]
theorem st_take (r : BitVec 32) (l : List Int) (k : Nat) (h : k < l.length) : st r (l.take (k + 1)) = stB (st r (l.take k)) (nth l k) := by
  rw [take_nth l k h, st_append]; rfl
theorem flat_take (ls : List (List Int)) (k : Nat) (h : k < ls.length) : (ls.take (k + 1)).flatten = (ls.take k).flatten ++ ls.getD k [] := by
  rw [List.take_succ_eq_append_getElem h, List.flatten_append]
  simp [List.getD, h]

set_option maxHeartbeats 1000000 in
theorem sum_any (a : Option Addr) (n c : Nat) (ls : List (List Int)) (w : World) (h : PartsAt w a n ls) (hn : n ≤ 1000000000) :
    Calls Try.prog 62 #[.slice a n c] w fun e w' => e = .returned (.int .u32 (rnum (sumB ls.flatten))) ∧ Below w.heap.size w w' := by
  go_enter Try.func62, Try.ntmps62
  go_wp2_with (first | (go_at_call 72; refine (half_any _).mono ?_; rintro e w1 ⟨rfl, hb⟩) | (refine wpList_store_row rfl 101 _ _ rfl w1.heap.size (tabA 16) rfl rfl 101 _ (heap_alloc_new w1 _) (by kernel_rfl) (by simp [tabA_size]) (tabA_one 16) ?_))
  have hB1 : Below w1.heap.size w1 ((w1.alloc (.cells #[.int .u32 0, .int .u32 0, .int .u32 0, .int .u32 0, .int .u32 0, .int .u32 0, .int .u32 0, .int .u32 0, .int .u32 0, .int .u32 0, .int .u32 0, .int .u32 0, .int .u32 0, .int .u32 0, .int .u32 0, .int .u32 0] 101)).setRow w1.heap.size (tabA 16)) := Below.setRow ((Below.refl _ _).alloc (Nat.le_refl _) _) (Nat.le_refl _) _
  have hT : ∀ j, j < 16 → ((w1.alloc (.cells #[.int .u32 0, .int .u32 0, .int .u32 0, .int .u32 0, .int .u32 0, .int .u32 0, .int .u32 0, .int .u32 0, .int .u32 0, .int .u32 0, .int .u32 0, .int .u32 0, .int .u32 0, .int .u32 0, .int .u32 0, .int .u32 0] 101)).setRow w1.heap.size (tabA 16)).cell? ⟨w1.heap.size, j, none⟩ = some (.int .u32 (rnum (tab j))) := fun j hj => by
    rw [cell_of_row _ _ _ _ _ _ (setRow_heap _ _ _ _ _ _ (heap_alloc_new w1 _)), tabA_get _ _ hj, if_pos hj]
  generalize (w1.alloc (.cells #[.int .u32 0, .int .u32 0, .int .u32 0, .int .u32 0, .int .u32 0, .int .u32 0, .int .u32 0, .int .u32 0, .int .u32 0, .int .u32 0, .int .u32 0, .int .u32 0, .int .u32 0, .int .u32 0, .int .u32 0, .int .u32 0] 101)).setRow w1.heap.size (tabA 16) = w2 at *
  have hP := (h.below hb).below hB1
  have hB := hb.trans (hB1.mono hb.size)
  have HT := Lib.hid hT
  have HLs := Lib.hid hP.len
  clear hT hb hB1
  go_loop [4, 12] (fun v i => ∃ k : Nat, k ≤ n ∧ i = .int .i64 k ∧ v = .int .u32 (rnum (st (ones) (ls.take k).flatten))) (fun _ i => n - (intOf i).toNat)
  case atStart => exact ⟨0, by omega, rfl, rfl⟩
  case round =>
    obtain ⟨k, hk, rfl, rfl⟩ := hrel
    by_cases hp : k < n
    · obtain ⟨b, o, ai, ni, ci, rfl, hc, hr⟩ := hP.cell k hp
      have hmax := hr.max
      have hcap := hr.cap
      unfold maxLen at hmax
      have HLL := Lib.hid hr.len
      have HF := Lib.hid (flat_take ls k (by rw [HLs.out]; exact hp))
      go_wp2
      generalize ls.getD k [] = l at *
      generalize hs0 : st (ones) (ls.take k).flatten = s0 at *
      have HS0 := Lib.hid hs0
      clear hs0
      go_loop [4, 18] (fun v j => ∃ q : Nat, q ≤ ni ∧ j = .int .i64 q ∧ v = .int .u32 (rnum (st s0 (l.take q)))) (fun _ j => ni - (intOf j).toNat)
      case atStart => exact ⟨0, by omega, rfl, rfl⟩
      case round =>
        obtain ⟨q, hq, rfl, rfl⟩ := hrel
        by_cases hqn : q < ni
        · obtain ⟨b2, o2, rfl, hc2⟩ := hr.cell q hqn
          obtain ⟨hb1, hb2⟩ := hr.byte q hqn
          have HS := Lib.hid (st_take s0 l q (by rw [HLL.out]; exact hqn))
          generalize st s0 (l.take q) = s1 at *
          generalize nth l q = x at *
          have e1 := mix_go s1 x
          have e2 := lo4_go (mixB s1 x)
          have e3 := nib_go (mixB s1 x)
          have e4 := lo4_go (bsN 4 (mixB s1 x))
          have e5 := nib_go (bsN 4 (mixB s1 x))
          have l1 := lo4_lt (mixB s1 x)
          have l2 := lo4_lt (bsN 4 (mixB s1 x))
          have t1 := HT.out _ l1
          have t2 := HT.out _ l2
          have HN := Lib.hid (stB_nib s1 x)
          go_wp2
          go_round
          case rel => exact ⟨q + 1, by omega, by go_num, by rw [HN.out, HS.out]⟩
          case measure => simp [intOf] <;> omega
        · obtain rfl : q = ni := by omega
          have HX : Hid (st s0 (l.take q) = st (ones) (ls.take (k + 1)).flatten) := by
            show _ = _
            rw [HF.out, st_append, HS0.out, List.take_of_length_le (by rw [HLL.out]; omega)]
          go_wp2
          go_round
          case rel => exact ⟨k + 1, by omega, by go_num, by rw [HX.out]⟩
          case measure => simp [intOf] <;> omega
    · obtain rfl : k = n := by omega
      go_wp2
      go_ret
      exact ⟨ret_int (by rw [not_go, List.take_of_length_le (by rw [HLs.out]; omega)]; rfl), hB⟩
theorem PartsAt.alloc {w : World} {a : Option Addr} {n : Nat} {ls : List (List Int)} (h : PartsAt w a n ls) (o : Obj) : PartsAt (w.alloc o) a n ls := h.below ((Below.refl _ _).alloc (Nat.le_refl _) o)
theorem PartsAt.none (w : World) : PartsAt w none 0 [] := ⟨rfl, fun i hi => by omega⟩
theorem PartsAt.one {w : World} {a : Option Addr} {n c : Nat} {l : List Int} (h : RdAt .u8 w a n c l) (e : TypeId) : PartsAt (w.alloc (.cells #[.slice a n c] e)) (some ⟨w.heap.size, 0, Option.none⟩) 1 [l] :=
  ⟨rfl, fun i hi => by
    obtain rfl : i = 0 := by omega
    exact ⟨_, _, a, n, c, rfl, by simp, h.alloc _⟩⟩
theorem PartsAt.two {w : World} {a a' : Option Addr} {n c n' c' : Nat} {l l' : List Int} (h : RdAt .u8 w a n c l) (h' : RdAt .u8 w a' n' c' l') (e : TypeId) : PartsAt (w.alloc (.cells #[.slice a n c, .slice a' n' c'] e)) (some ⟨w.heap.size, 0, Option.none⟩) 2 [l, l'] :=
  ⟨rfl, fun i hi => by
    rcases (by omega : i = 0 ∨ i = 1) with rfl | rfl
    · exact ⟨_, _, a, n, c, rfl, by simp, h.alloc _⟩
    · exact ⟨_, _, a', n', c', rfl, by simp, h'.alloc _⟩⟩
/-- The sum of one part. -/
theorem sum_one (a : Option Addr) (c : Nat) (l : List Int) (w : World) (h : PartsAt w a 1 [l]) :
    Calls Try.prog 62 #[.slice a 1 c] w fun e w' => e = .returned (.int .u32 (rnum (sumB l))) ∧ Below w.heap.size w w' := by
  refine (sum_any a 1 c [l] w h (by omega)).mono fun e w' ⟨he, hb⟩ => ⟨?_, hb⟩
  rw [he]; simp
end Go.Proofs.Ytnlhpfcepbmbfaa
