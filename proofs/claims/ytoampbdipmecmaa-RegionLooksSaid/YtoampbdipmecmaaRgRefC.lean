/- The document's regions: Pieces. -/
import Derived.Test.YtoampbdipmecmaaRgRefB
namespace Go.Proofs.Ytoampbdipmecmaa
open Go.RowKit
theorem put_row0 {w : World} {b T : Nat} {x y z v : Value} (h : w.heap[b]? = some (.cells #[x, y, z] T (0, 0))) : (w.setCell ⟨b, 0, none⟩ v).heap[b]? = some (.cells #[v, y, z] T (0, 0)) := heap_setCell_same w b 0 _ T v h
theorem put_row1 {w : World} {b T : Nat} {x y z v : Value} (h : w.heap[b]? = some (.cells #[x, y, z] T (0, 0))) : (w.setCell ⟨b, 1, none⟩ v).heap[b]? = some (.cells #[x, v, z] T (0, 0)) := heap_setCell_same w b 1 _ T v h
theorem put_below {w0 w : World} {b i : Nat} {v : Value} (h : Below w0.heap.size w0 w) (hb : w0.heap.size = b) : Below w0.heap.size w0 (w.setCell ⟨b, i, none⟩ v) :=
  Below.grown h (cell_grown1 w b i v) h.size (fun k e => by injection e with e; omega)
theorem piecesL_snoc {L : List Rg} {k : Nat} {r : Rg} (lo hi : Int) (h : L[k]? = some r) : piecesL (L.take (k + 1)) lo hi = piecesL (L.take k) lo hi ++ (if max r.lo lo < min r.hi hi then [clipR lo hi r] else []) := by
  rw [List.take_add_one, h]
  unfold piecesL
  rw [List.map_append, List.filter_append]
  congr 1
  show List.filter _ [clipR lo hi r] = _
  rw [List.filter_cons, List.filter_nil]
  unfold clipR
  by_cases h : max r.lo lo < min r.hi hi
  · rw [if_pos h, if_pos (by simpa using h)]
  · rw [if_neg h, if_neg (by simpa using h)]
theorem piecesL_le (L : List Rg) (k : Nat) (lo hi : Int) : (piecesL (L.take k) lo hi).length ≤ L.length := by
  unfold piecesL
  refine Nat.le_trans (List.length_filter_le _ _) ?_
  rw [List.length_map, List.length_take]
  omega
set_option linter.unusedSimpArgs false in
set_option linter.unusedVariables false in
set_option maxRecDepth 100000 in
set_option maxHeartbeats 2000000 in
theorem refpieces_any (a : Option Addr) (n c : Nat) (L : List Rg) (lo hi : Int) (w : World) (h : RdS Rg.cells 3 w a n c L) (hn : n ≤ 1000) :
    Calls Try.prog 27 #[.slice a n c, .int .i64 lo, .int .i64 hi] w (GivesRgs (piecesL L lo hi) w) := by
  have H := Lib.hid h
  clear h
  go_enter Try.func27, Try.ntmps27
  go_wp2
  go_loopw [7, 8] (fun v i wr => ∃ k : Nat, k ≤ n ∧ i = .int .i64 k ∧ Hid (OwnsS Rg.cells 3 29 wr w.heap.size v (piecesL (L.take k) lo hi) ∧ Below w.heap.size w wr)) (fun _ i _ => n - (intOf i).toNat)
  case atStart => exact ⟨0, by omega, rfl, OwnsS.nil _ _ _ _ _, Below.refl _ _⟩
  case round =>
    obtain ⟨k, hk, rfl, hh⟩ := hrel
    obtain ⟨h1, h2⟩ := hh.out
    have O := Lib.hid h1
    have B := Lib.hid h2
    clear hh h1 h2
    by_cases hkn : k < n
    · have hl := H.out.len
      obtain ⟨r, hr⟩ : ∃ r, L[k]? = some r := ⟨L[k], List.getElem?_eq_getElem (by omega)⟩
      obtain ⟨b, o, ha, c0, c1, c2⟩ := (H.out.below B.out).three k r hr
      subst ha
      have HE := Lib.hid (piecesL_snoc lo hi hr)
      have HLEN : Hid ((piecesL (L.take k) lo hi).length ≤ 1000) := Nat.le_trans (piecesL_le L k lo hi) (by omega)
      clear hr hl
      obtain ⟨rlo, rhi, rp⟩ := r
      replace c0 : wr.cell? ⟨b, o + k * 3, none⟩ = some (.int .i64 rlo) := c0
      replace c1 : wr.cell? ⟨b, o + k * 3 + 1, none⟩ = some (.int .i64 rhi) := c1
      replace c2 : wr.cell? ⟨b, o + k * 3 + 2, none⟩ = some (.int .i64 rp) := c2
      have hb4 := below_a wr (.cells #[.int .i64 rlo, .int .i64 rhi, .int .i64 rp] 29)
      have hbox := heap_alloc_new wr (.cells #[.int .i64 rlo, .int .i64 rhi, .int .i64 rp] 29)
      obtain ⟨w4, hw4⟩ : ∃ w4, wr.alloc (.cells #[.int .i64 rlo, .int .i64 rhi, .int .i64 rp] 29) = w4 := ⟨_, rfl⟩
      obtain ⟨xb, hxb⟩ : ∃ xb, wr.heap.size = xb := ⟨_, rfl⟩
      rw [hw4] at hb4 hbox
      rw [hxb] at hbox
      have HXB := Lib.hid hxb
      have B4 := Lib.hid hb4
      have R4 := Lib.hid hbox
      obtain ⟨p0, p1, p2⟩ := cells3 hbox
      have hfz : ∀ i, w4.frozen? ⟨xb, i, none⟩ = false := fun i => frozen_of_row w4 xb i _ _ hbox
      clear hb4 hbox
      by_cases x1 : rlo < lo
      · by_cases x2 : hi < rhi
        · skip
          have hclo : max rlo lo = lo := by omega
          have hchi : min rhi hi = hi := by omega
          have HCL := Lib.hid hclo
          have HCH := Lib.hid hchi
          clear hclo hchi
          have hrow5 := put_row0 (v := .int .i64 lo) R4.out
          have hbel5 := put_below (i := 0) (v := .int .i64 lo) B4.out hxb
          obtain ⟨w5, hw5⟩ : ∃ x, w4.setCell ⟨xb, 0, none⟩ (.int .i64 lo) = x := ⟨_, rfl⟩
          rw [hw5] at hrow5 hbel5
          have R5 := Lib.hid hrow5
          have B5 := Lib.hid hbel5
          obtain ⟨p05, p15, p25⟩ := cells3 hrow5
          have hfz5 : ∀ i, w5.frozen? ⟨xb, i, none⟩ = false := fun i => frozen_of_row w5 xb i _ _ hrow5
          clear hrow5 hbel5
          have hrow6 := put_row1 (v := .int .i64 hi) R5.out
          have hbel6 := put_below (i := 1) (v := .int .i64 hi) B5.out hxb
          obtain ⟨w6, hw6⟩ : ∃ x, w5.setCell ⟨xb, 1, none⟩ (.int .i64 hi) = x := ⟨_, rfl⟩
          rw [hw6] at hrow6 hbel6
          have R6 := Lib.hid hrow6
          have B6 := Lib.hid hbel6
          obtain ⟨p06, p16, p26⟩ := cells3 hrow6
          have hfz6 : ∀ i, w6.frozen? ⟨xb, i, none⟩ = false := fun i => frozen_of_row w6 xb i _ _ hrow6
          clear hrow6 hbel6
          have HX := Lib.hid (O.out.below B6.out)
          have HBX := Lib.hid (Below.call B.out B6.out)
          by_cases y1 : lo < hi
          · go_wp2_with (first | (rw [hw4]) | (rw [hw5]) | (rw [hw6]) | (at_builtin; refine appS_one rgC Try.underlying22 rgI rfl (by decide) rfl (.tmp 37) (.tmp 39) rfl _ w.heap.size _ _ rfl (HX.out.alloc _) _ 1 ⟨lo, hi, rp⟩ rfl (heap_alloc_new w6 _) (by have := HLEN.out; omega) (by have := HBX.out.size; simp; omega) ?_; intro v1 w1 ho1 hg1))
            go_roundw
            case rel =>
              refine ⟨k + 1, by omega, by go_num, ?_, own_step HBX.out HX.out (below_a _ _) hg1⟩
              rw [HE.out]
              unfold clipR
              show OwnsS Rg.cells 3 _ _ _ _ (_ ++ (if max rlo lo < min rhi hi then [(⟨max rlo lo, min rhi hi, rp⟩ : Rg)] else []))
              rw [HCL.out, HCH.out, if_pos y1]
              exact ho1
            case measure => simp [intOf] <;> omega
          · go_wp2_with (first | (rw [hw4]) | (rw [hw5]) | (rw [hw6]))
            go_roundw
            case rel =>
              refine ⟨k + 1, by omega, by go_num, ?_, HBX.out⟩
              rw [HE.out]
              show OwnsS Rg.cells 3 _ _ _ _ (_ ++ (if max rlo lo < min rhi hi then [clipR lo hi ⟨rlo, rhi, rp⟩] else []))
              rw [HCL.out, HCH.out, if_neg (by omega), List.append_nil]
              exact HX.out
            case measure => simp [intOf] <;> omega
        · skip
          have hclo : max rlo lo = lo := by omega
          have hchi : min rhi hi = rhi := by omega
          have HCL := Lib.hid hclo
          have HCH := Lib.hid hchi
          clear hclo hchi
          have hrow5 := put_row0 (v := .int .i64 lo) R4.out
          have hbel5 := put_below (i := 0) (v := .int .i64 lo) B4.out hxb
          obtain ⟨w5, hw5⟩ : ∃ x, w4.setCell ⟨xb, 0, none⟩ (.int .i64 lo) = x := ⟨_, rfl⟩
          rw [hw5] at hrow5 hbel5
          have R5 := Lib.hid hrow5
          have B5 := Lib.hid hbel5
          obtain ⟨p05, p15, p25⟩ := cells3 hrow5
          have hfz5 : ∀ i, w5.frozen? ⟨xb, i, none⟩ = false := fun i => frozen_of_row w5 xb i _ _ hrow5
          clear hrow5 hbel5
          have HX := Lib.hid (O.out.below B5.out)
          have HBX := Lib.hid (Below.call B.out B5.out)
          by_cases y1 : lo < rhi
          · go_wp2_with (first | (rw [hw4]) | (rw [hw5]) | (at_builtin; refine appS_one rgC Try.underlying22 rgI rfl (by decide) rfl (.tmp 37) (.tmp 39) rfl _ w.heap.size _ _ rfl (HX.out.alloc _) _ 1 ⟨lo, rhi, rp⟩ rfl (heap_alloc_new w5 _) (by have := HLEN.out; omega) (by have := HBX.out.size; simp; omega) ?_; intro v1 w1 ho1 hg1))
            go_roundw
            case rel =>
              refine ⟨k + 1, by omega, by go_num, ?_, own_step HBX.out HX.out (below_a _ _) hg1⟩
              rw [HE.out]
              unfold clipR
              show OwnsS Rg.cells 3 _ _ _ _ (_ ++ (if max rlo lo < min rhi hi then [(⟨max rlo lo, min rhi hi, rp⟩ : Rg)] else []))
              rw [HCL.out, HCH.out, if_pos y1]
              exact ho1
            case measure => simp [intOf] <;> omega
          · go_wp2_with (first | (rw [hw4]) | (rw [hw5]))
            go_roundw
            case rel =>
              refine ⟨k + 1, by omega, by go_num, ?_, HBX.out⟩
              rw [HE.out]
              show OwnsS Rg.cells 3 _ _ _ _ (_ ++ (if max rlo lo < min rhi hi then [clipR lo hi ⟨rlo, rhi, rp⟩] else []))
              rw [HCL.out, HCH.out, if_neg (by omega), List.append_nil]
              exact HX.out
            case measure => simp [intOf] <;> omega
      · by_cases x2 : hi < rhi
        · skip
          have hclo : max rlo lo = rlo := by omega
          have hchi : min rhi hi = hi := by omega
          have HCL := Lib.hid hclo
          have HCH := Lib.hid hchi
          clear hclo hchi
          have hrow5 := put_row1 (v := .int .i64 hi) R4.out
          have hbel5 := put_below (i := 1) (v := .int .i64 hi) B4.out hxb
          obtain ⟨w5, hw5⟩ : ∃ x, w4.setCell ⟨xb, 1, none⟩ (.int .i64 hi) = x := ⟨_, rfl⟩
          rw [hw5] at hrow5 hbel5
          have R5 := Lib.hid hrow5
          have B5 := Lib.hid hbel5
          obtain ⟨p05, p15, p25⟩ := cells3 hrow5
          have hfz5 : ∀ i, w5.frozen? ⟨xb, i, none⟩ = false := fun i => frozen_of_row w5 xb i _ _ hrow5
          clear hrow5 hbel5
          have HX := Lib.hid (O.out.below B5.out)
          have HBX := Lib.hid (Below.call B.out B5.out)
          by_cases y1 : rlo < hi
          · go_wp2_with (first | (rw [hw4]) | (rw [hw5]) | (at_builtin; refine appS_one rgC Try.underlying22 rgI rfl (by decide) rfl (.tmp 37) (.tmp 39) rfl _ w.heap.size _ _ rfl (HX.out.alloc _) _ 1 ⟨rlo, hi, rp⟩ rfl (heap_alloc_new w5 _) (by have := HLEN.out; omega) (by have := HBX.out.size; simp; omega) ?_; intro v1 w1 ho1 hg1))
            go_roundw
            case rel =>
              refine ⟨k + 1, by omega, by go_num, ?_, own_step HBX.out HX.out (below_a _ _) hg1⟩
              rw [HE.out]
              unfold clipR
              show OwnsS Rg.cells 3 _ _ _ _ (_ ++ (if max rlo lo < min rhi hi then [(⟨max rlo lo, min rhi hi, rp⟩ : Rg)] else []))
              rw [HCL.out, HCH.out, if_pos y1]
              exact ho1
            case measure => simp [intOf] <;> omega
          · go_wp2_with (first | (rw [hw4]) | (rw [hw5]))
            go_roundw
            case rel =>
              refine ⟨k + 1, by omega, by go_num, ?_, HBX.out⟩
              rw [HE.out]
              show OwnsS Rg.cells 3 _ _ _ _ (_ ++ (if max rlo lo < min rhi hi then [clipR lo hi ⟨rlo, rhi, rp⟩] else []))
              rw [HCL.out, HCH.out, if_neg (by omega), List.append_nil]
              exact HX.out
            case measure => simp [intOf] <;> omega
        · skip
          have hclo : max rlo lo = rlo := by omega
          have hchi : min rhi hi = rhi := by omega
          have HCL := Lib.hid hclo
          have HCH := Lib.hid hchi
          clear hclo hchi
          have HX := Lib.hid (O.out.below B4.out)
          have HBX := Lib.hid (Below.call B.out B4.out)
          by_cases y1 : rlo < rhi
          · go_wp2_with (first | (rw [hw4]) | (at_builtin; refine appS_one rgC Try.underlying22 rgI rfl (by decide) rfl (.tmp 37) (.tmp 39) rfl _ w.heap.size _ _ rfl (HX.out.alloc _) _ 1 ⟨rlo, rhi, rp⟩ rfl (heap_alloc_new w4 _) (by have := HLEN.out; omega) (by have := HBX.out.size; simp; omega) ?_; intro v1 w1 ho1 hg1))
            go_roundw
            case rel =>
              refine ⟨k + 1, by omega, by go_num, ?_, own_step HBX.out HX.out (below_a _ _) hg1⟩
              rw [HE.out]
              unfold clipR
              show OwnsS Rg.cells 3 _ _ _ _ (_ ++ (if max rlo lo < min rhi hi then [(⟨max rlo lo, min rhi hi, rp⟩ : Rg)] else []))
              rw [HCL.out, HCH.out, if_pos y1]
              exact ho1
            case measure => simp [intOf] <;> omega
          · go_wp2_with (first | (rw [hw4]))
            go_roundw
            case rel =>
              refine ⟨k + 1, by omega, by go_num, ?_, HBX.out⟩
              rw [HE.out]
              show OwnsS Rg.cells 3 _ _ _ _ (_ ++ (if max rlo lo < min rhi hi then [clipR lo hi ⟨rlo, rhi, rp⟩] else []))
              rw [HCL.out, HCH.out, if_neg (by omega), List.append_nil]
              exact HX.out
            case measure => simp [intOf] <;> omega
    · obtain rfl : k = n := by omega
      have hl := H.out.len
      have e : L.take k = L := List.take_of_length_le (by omega)
      rw [e] at O
      clear hl e
      go_wp2
      go_ret
      exact ⟨_, rfl, O.out, B.out⟩
end Go.Proofs.Ytoampbdipmecmaa
