/- The reference's set of numbers: contracts of New, Has, Take, Free, List, Bits. -/
import Derived.Test.YtlcmnaponpjhnaaSet
import Derived.OwnWalk
import Derived.Laws.OwnMore
namespace Go.Proofs.Ytlcmnaponpjhnaa
open Go.RowKit
def bvals (v : BitVec 64) (n : Nat) : List Value := (List.range n).map fun i => .bool (v.getLsbD i)
theorem bvals_len (v : BitVec 64) (n : Nat) : (bvals v n).length = n := by simp [bvals]
theorem bvals_at (v : BitVec 64) {n i : Nat} (h : i < n) : (bvals v n)[i]? = some (.bool (v.getLsbD i)) := by simp [bvals, h]
theorem bvals_out (v : BitVec 64) {n i : Nat} (h : n ≤ i) : (bvals v n)[i]? = none := by simp [bvals, h]
theorem bvals_set (v v' : BitVec 64) {n k : Nat} (b : Bool) (hk : k < n) (h : ∀ i, i < n → v'.getLsbD i = if k = i then b else v.getLsbD i) : (bvals v n).set k (.bool b) = bvals v' n := by
  apply List.ext_getElem?
  intro i
  rw [List.getElem?_set, bvals_len]
  by_cases hi : i < n
  · rw [bvals_at v' hi, bvals_at v hi, h i hi]
    by_cases e : k = i
    · rw [if_pos e, if_pos hk, if_pos e]
    · rw [if_neg e, if_neg e]
  · rw [bvals_out v' (by omega), bvals_out v (by omega)]
    by_cases e : k = i
    · omega
    · rw [if_neg e]
theorem bvals_put (v : BitVec 64) {n k : Nat} (hn : n ≤ 64) (hk : k < n) : (bvals v n).set k (.bool true) = bvals (v ||| qbit k) n :=
  bvals_set v _ true hk fun i hi => by
    rw [put_get _ _ _ (by omega)]
    by_cases e : k = i
    · rw [if_pos e, decide_eq_true e.symm]; simp
    · rw [if_neg e, decide_eq_false (fun h => e h.symm)]; simp
theorem bvals_drop (v : BitVec 64) {n k : Nat} (hn : n ≤ 64) (hk : k < n) : (bvals v n).set k (.bool false) = bvals (v &&& ~~~ qbit k) n :=
  bvals_set v _ false hk fun i hi => by
    rw [drop_get _ _ _ (by omega)]
    by_cases e : k = i
    · rw [if_pos e, decide_eq_true e.symm]; simp
    · rw [if_neg e, decide_eq_false (fun h => e h.symm)]; simp
theorem bvals_zero (n : Nat) : List.replicate n (.bool false) = bvals 0#64 n := by
  apply List.ext_getElem?
  intro i
  by_cases hi : i < n
  · rw [bvals_at _ hi, List.getElem?_replicate, if_pos hi]; simp
  · rw [bvals_out _ (by omega), List.getElem?_replicate, if_neg hi]
/-- The reference's set: its own block g, its bools' row in block h. -/
structure RSetAt (w : World) (g h n : Nat) (v : BitVec 64) : Prop where
  row : w.heap[g]? = some (.cells #[.slice (some ⟨h, 0, none⟩) n n] 53 (0, 0))
  own : w.heap[h]? = some (.cells (bvals v n).toArray 4 (0, 0))
  ne : g ≠ h
theorem RSetAt.lt {w : World} {g h n : Nat} {v : BitVec 64} (r : RSetAt w g h n v) : g < w.heap.size ∧ h < w.heap.size := ⟨(Array.getElem?_eq_some_iff.1 r.row).1, (Array.getElem?_eq_some_iff.1 r.own).1⟩
theorem RSetAt.below {w w' : World} {g h n : Nat} {v : BitVec 64} (r : RSetAt w g h n v) (hb : Below w.heap.size w w') : RSetAt w' g h n v :=
  ⟨by rw [hb.block g r.lt.1]; exact r.row, by rw [hb.block h r.lt.2]; exact r.own, r.ne⟩
theorem RSetAt.grown {w w' : World} {g h n k : Nat} {v : BitVec 64} (r : RSetAt w g h n v) (hb : w.grownBy w' (some k)) (h1 : g ≠ k) (h2 : h ≠ k) : RSetAt w' g h n v :=
  ⟨by rw [hb.block g r.lt.1 (fun e => h1 (Option.some.inj e))]; exact r.row, by rw [hb.block h r.lt.2 (fun e => h2 (Option.some.inj e))]; exact r.own, r.ne⟩
theorem SetAt.grown {w w' : World} {g k : Nat} {n : Int} {v : BitVec 64} (r : SetAt w g n v) (hb : w.grownBy w' (some k)) (h1 : g ≠ k) : SetAt w' g n v := by
  unfold SetAt at *
  rw [hb.block g (Array.getElem?_eq_some_iff.1 r).1 (fun e => h1 (Option.some.inj e))]; exact r
theorem RSetAt.head {w : World} {g h n : Nat} {v : BitVec 64} (r : RSetAt w g h n v) : w.cell? ⟨g, 0, none⟩ = some (.slice (some ⟨h, 0, none⟩) n n) := by rw [cell_of_row w _ _ _ _ _ r.row]; rfl
theorem RSetAt.bit {w : World} {g h n : Nat} {v : BitVec 64} (r : RSetAt w g h n v) {i : Nat} (hi : i < n) : w.cell? ⟨h, i, none⟩ = some (.bool (v.getLsbD i)) := by
  rw [cell_of_row w _ _ _ _ _ r.own, ← bvals_at v hi]; simp
theorem RSetAt.free {w : World} {g h n : Nat} {v : BitVec 64} (r : RSetAt w g h n v) (i : Nat) : w.frozen? ⟨h, i, none⟩ = false := frozen_of_row w _ _ _ _ r.own
theorem set_grown (w : World) (g i : Nat) (x : Value) : w.grownBy (w.setCell ⟨g, i, none⟩ x) (some g) :=
  ⟨rfl, rfl, rfl, by simp, fun k _ hk => heap_setCell_other w ⟨g, i, none⟩ k x (fun e => hk (by simp [e]))⟩
theorem RSetAt.set {w : World} {g h n : Nat} {v v' : BitVec 64} (r : RSetAt w g h n v) (i : Nat) (b : Bool) (hs : (bvals v n).set i (.bool b) = bvals v' n) : RSetAt (w.setCell ⟨h, i, none⟩ (.bool b)) g h n v' := by
  refine ⟨?_, ?_, r.ne⟩
  · rw [heap_setCell_other w ⟨h, i, none⟩ g _ (fun e => r.ne e)]; exact r.row
  · rw [heap_setCell_same w h i _ _ _ r.own, ← hs]
    simp
theorem heap_alloc_old (w : World) (o : Obj) {k : Nat} (h : k < w.heap.size) : (w.alloc o).heap[k]? = w.heap[k]? := by
  show (w.heap.push o)[k]? = _
  simp [Array.getElem?_push, Nat.ne_of_lt h]
theorem rnew_no (n : Int) (w : World) (h : n < 1 ∨ 64 < n) : Calls Try.prog 12 #[.int .i64 n] w fun e w' => e = .returned (.tuple #[.pointer none, .int .i64 1]) ∧ w = w' := by
  rcases h with h | h
  · go_enter Try.func12, Try.ntmps12
    go_wp2
    go_ret2
    exact ⟨rfl, rfl⟩
  · have h' : ¬ n < 1 := by omega
    go_enter Try.func12, Try.ntmps12
    go_wp2
    go_ret2
    exact ⟨rfl, rfl⟩
theorem boolI : (Try.prog.info? 4).map (fun i => (i.zero, i.size, i.bytes)) = some (some (.bool false), 1, 1) := by kernel_rfl
theorem rnew_yes (n : Nat) (w : World) (h1 : 1 ≤ n) (h2 : n ≤ 64) : Calls Try.prog 12 #[.int .i64 n] w fun e w' => ∃ g h, e = .returned (.tuple #[.pointer (some ⟨g, 0, none⟩), .int .i64 0]) ∧ w.heap.size ≤ g ∧ w.heap.size ≤ h ∧ RSetAt w' g h n 0#64 ∧ Below w.heap.size w w' := by
  obtain ⟨i0, hi, hz0, hz1, hz2⟩ := info_parts boolI
  go_enter Try.func12, Try.ntmps12
  go_wp2_with (refine wpList_make_full _ rfl _ _ 51 rfl w.heap.size 4 i0 (.bool false) 1 Try.underlying51 hi hz0 hz1 .i64 .i64 _ _ n rfl rfl rfl rfl (by rw [hz2]; omega) (by unfold maxLen; omega) (Nat.le_refl _) ?_; intro w1 ho1 hg1)
  go_ret2
  have hsz := hg1.size
  have hlt : w.heap.size < w1.heap.size := (ho1.lt _ rfl).2
  refine ⟨_, _, rfl, hsz, Nat.le_refl _, ⟨heap_alloc_new _ _, ?_, by omega⟩, ((Below.refl w.heap.size w).grown hg1 (Nat.le_refl _) (fun _ h => by cases h)).trans (((Below.refl w1.heap.size w1).alloc (Nat.le_refl _) _).mono hsz)⟩
  rw [heap_alloc_old _ _ hlt]
  rcases ho1.2 with ⟨hv, _⟩ | ⟨g', cap, cur, hv, _, hh, _, _, hcs, htake⟩
  · simp at hv
  · simp only [Value.slice.injEq, Option.some.injEq, Addr.mk.injEq, and_true, true_and] at hv
    obtain ⟨rfl, rfl⟩ := hv
    rw [hh]
    congr 2
    rw [show (Value.bool false).cells = #[.bool false] from rfl, toList_madeCells_one, Nat.mul_one, bvals_zero, List.take_of_length_le (by rw [Array.length_toList, hcs]; omega)] at htake
    rw [← htake]
theorem rhas_any (g h n : Nat) (v : BitVec 64) (p : Int) (w : World) (r : RSetAt w g h n v) : Calls Try.prog 21 #[.pointer (some ⟨g, 0, none⟩), .int .i64 p] w fun e w' => e = .returned (.bool (hasB n v p)) ∧ w = w' := by
  have c0 := r.head
  by_cases h1 : 0 ≤ p
  · obtain ⟨q, rfl⟩ := Int.eq_ofNat_of_zero_le h1
    by_cases h2 : q < n
    · have c1 := r.bit h2
      have he : hasB n v q = v.getLsbD q := hasB_nat h2
      rw [he]
      clear r he
      go_enter Try.func21, Try.ntmps21
      go_wp2
      go_ret
      exact ⟨rfl, rfl⟩
    · have he : hasB n v q = false := by unfold hasB; rw [decide_eq_false (by omega : ¬ (q : Int) < n)]; simp
      rw [he]
      clear r he
      go_enter Try.func21, Try.ntmps21
      go_wp2
      go_ret
      exact ⟨rfl, rfl⟩
  · have he : hasB n v p = false := by unfold hasB; rw [decide_eq_false h1]; rfl
    rw [he]
    clear r he
    go_enter Try.func21, Try.ntmps21
    go_wp2
    go_ret
    exact ⟨rfl, rfl⟩
theorem rtake_no (g h n : Nat) (v : BitVec 64) (w : World) (r : RSetAt w g h n v) (hn : n ≤ 64) (hf : firstF v n = n) :
    Calls Try.prog 15 #[.pointer (some ⟨g, 0, none⟩)] w fun e w' => e = .returned (.tuple #[.int .i64 0, .int .i64 5]) ∧ w = w' := by
  have c0 := r.head
  have R := Lib.hid r
  have HF := Lib.hid hf
  clear r hf
  go_enter Try.func15, Try.ntmps15
  go_wp2
  go_loop [4] (fun i => ∃ k : Nat, k ≤ n ∧ i = .int .i64 k) (fun i => n - (intOf i).toNat)
  case atStart => exact ⟨0, by omega, rfl⟩
  case round =>
    obtain ⟨k, hk, rfl⟩ := hrel
    by_cases hp : k < n
    · have c1 := R.out.bit hp
      rw [firstF_below v n k (by rw [HF.out]; exact hp)] at c1
      go_wp2
      go_round
      case rel => exact ⟨k + 1, by omega, by go_num⟩
      case measure => simp [intOf] <;> omega
    · go_wp2
      go_ret2
      exact ⟨rfl, rfl⟩
theorem rtake_yes (g h n k0 : Nat) (v : BitVec 64) (w : World) (r : RSetAt w g h n v) (hn : n ≤ 64) (hf : firstF v n = k0) (hk0 : k0 < n) :
    Calls Try.prog 15 #[.pointer (some ⟨g, 0, none⟩)] w fun e w' => e = .returned (.tuple #[.int .i64 k0, .int .i64 0]) ∧ RSetAt w' g h n (v ||| qbit k0) ∧ w.grownBy w' (some h) := by
  have c0 := r.head
  have R := Lib.hid r
  have HF := Lib.hid hf
  clear r hf
  go_enter Try.func15, Try.ntmps15
  go_wp2
  go_loop [4] (fun i => ∃ k : Nat, k ≤ k0 ∧ i = .int .i64 k) (fun i => n - (intOf i).toNat)
  case atStart => exact ⟨0, by omega, rfl⟩
  case round =>
    obtain ⟨k, hk, rfl⟩ := hrel
    by_cases hp : k < k0
    · have c1 := R.out.bit (i := k) (by omega)
      rw [firstF_below v n k (by rw [HF.out]; exact hp)] at c1
      go_wp2
      go_round
      case rel => exact ⟨k + 1, by omega, by go_num⟩
      case measure => simp [intOf] <;> omega
    · have HE : Hid (k = k0) := by show _ = _; omega
      have hkn : k < n := by omega
      have c1 := R.out.bit hkn
      have hbf := firstF_at v n (by rw [HF.out]; exact hk0)
      rw [HF.out, ← HE.out] at hbf
      rw [hbf] at c1
      have cf := R.out.free k
      have HS := Lib.hid (bvals_put v hn hkn)
      clear hbf
      go_wp2
      go_ret2
      refine ⟨by rw [← HE.out]; rfl, ?_, set_grown _ _ _ _⟩
      rw [← HE.out]
      exact R.out.set _ _ HS.out
theorem rfree_no (g h n : Nat) (v : BitVec 64) (p : Int) (w : World) (r : RSetAt w g h n v) (hb : hasB n v p = false) :
    Calls Try.prog 16 #[.pointer (some ⟨g, 0, none⟩), .int .i64 p] w fun e w' => e = .returned (.int .i64 2) ∧ w = w' := by
  have R := Lib.hid r
  clear r
  go_enter Try.func16, Try.ntmps16
  go_wp2_with (go_at_call 21; refine (rhas_any _ _ _ _ _ _ R.out).mono ?_; rintro e w' ⟨rfl, rfl⟩)
  go_ret
  exact ⟨rfl, rfl⟩
theorem rfree_yes (g h n : Nat) (v : BitVec 64) (p : Nat) (w : World) (r : RSetAt w g h n v) (hn : n ≤ 64) (hb : hasB n v p = true) :
    Calls Try.prog 16 #[.pointer (some ⟨g, 0, none⟩), .int .i64 p] w fun e w' => e = .returned (.int .i64 0) ∧ RSetAt w' g h n (v &&& ~~~ qbit p) ∧ w.grownBy w' (some h) := by
  have hp : (p : Int) < n := by
    unfold hasB at hb
    simp only [Bool.and_eq_true, decide_eq_true_eq] at hb
    exact hb.2.1
  have hpn : p < n := by omega
  have c0 := r.head
  have c1 := r.bit hpn
  have cf := r.free p
  have R := Lib.hid r
  have HS := Lib.hid (bvals_drop v hn hpn)
  clear r
  go_enter Try.func16, Try.ntmps16
  go_wp2_with (go_at_call 21; refine (rhas_any _ _ _ _ _ _ R.out).mono ?_; rintro e w' ⟨rfl, rfl⟩)
  go_ret
  exact ⟨rfl, R.out.set _ _ HS.out, set_grown _ _ _ _⟩
set_option maxRecDepth 100000 in
theorem rlist_any (g h n : Nat) (v : BitVec 64) (w : World) (r : RSetAt w g h n v) (hn : n ≤ 64) :
    Calls Try.prog 19 #[.pointer (some ⟨g, 0, none⟩)] w (GivesInts (pidsK v n) w) := by
  have R := Lib.hid r
  clear r
  go_enter Try.func19, Try.ntmps19
  go_wp2_with fail
  go_loopw [3, 4] (fun x i wr => ∃ k : Nat, k ≤ n ∧ i = .int .i64 k ∧ Owns .i64 3 wr w.heap.size x (pidsK v k) ∧ Below w.heap.size w wr) (fun _ i _ => n - (intOf i).toNat)
  case atStart => exact ⟨0, by omega, rfl, Owns.nil _ _ _ _, Below.refl _ _⟩
  case round =>
    obtain ⟨k, hk, rfl, ow, hb⟩ := hrel
    have R1 := Lib.hid (R.out.below hb)
    have c0 := R1.out.head
    have hsz := hb.size
    have hpk := pidsK_le v k
    obtain ⟨q, hq⟩ : ∃ q, (pidsK v k).length = q := ⟨_, rfl⟩
    obtain ⟨a, c, rfl⟩ := ow.shapeN q hq
    rw [hq] at hpk
    have HQ := Lib.hid hq
    have OW := Lib.hid ow
    clear ow hq
    by_cases hp : k < n
    · have c1 := R1.out.bit hp
      by_cases hb1 : v.getLsbD k = true
      · rw [hb1] at c1
        have HX : Hid (pidsK v (k + 1) = pidsK v k ++ [(k : Int)]) := by show _ = _; rw [pidsK, if_pos hb1]
        clear hb1
        go_wp2_with (at_builtin; refine app_one i64T i64I (by decide) rfl (.tmp 21) (.tmp 23) rfl _ w.heap.size _ (pidsK v k) rfl OW.out _ rfl (WalkArith.wf_i64 (by omega)) (by rw [HQ.out]; omega) (by omega) ?_; intro v2 w2 ho2 hg2)
        have hb2 : Below w.heap.size w w2 := hb.trans (hg2.below hsz (fun g hg => (OW.out.at_base g hg).1))
        go_roundw
        case rel => exact ⟨k + 1, by omega, by go_num, by rw [HX.out]; exact ho2, hb2⟩
        case measure => simp [intOf] <;> omega
      · rw [Bool.not_eq_true] at hb1
        rw [hb1] at c1
        have HX : Hid (pidsK v (k + 1) = pidsK v k) := by show _ = _; rw [pidsK, if_neg (by rw [hb1]; decide)]
        clear hb1
        go_wp2_with fail
        go_roundw
        case rel => exact ⟨k + 1, by omega, by go_num, by rw [HX.out]; exact OW.out, hb⟩
        case measure => simp [intOf] <;> omega
    · obtain rfl : k = n := by omega
      go_wp2_with fail
      go_ret
      exact ⟨_, rfl, OW.out, hb⟩
end Go.Proofs.Ytlcmnaponpjhnaa
