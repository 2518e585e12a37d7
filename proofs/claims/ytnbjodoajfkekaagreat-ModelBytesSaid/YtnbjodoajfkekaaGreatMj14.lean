/- The contracts of procs: New, Has, Bits, Take, Free, List, Len. The reference's set of numbers: contracts of New, Has, Take, Free, List, Bits. The reference's set of numbers: contracts of Bits and Of; procs.Of. procs.Of and the reference's: contracts. What ProcsPlays hands to Each, Each itself, and rows of numbers compared. The walk of almanaclaw17.ProcsLeast. Take and Free, whatever there is: contracts of the program's and the reference's. -/
import Derived.Test.YtnbjodoajfkekaaGreatProg
import Derived.Test.YtnbjodoajfkekaaGreatMj13
import Derived.Test.YtnbjodoajfkekaaGreatMj1
import Derived.RegionTactic
import Derived.ChangeAlike
import Derived.ProofKit
import Derived.OwnWalk
import Derived.Laws.OwnMore
import Derived.Deep.QuietTactic
import Derived.BigQuiet
import Derived.Test.YtnbjodoajfkekaaGreatMj3
namespace Go.Proofs.YtnbjodoajfkekaaGreat
open Go.RowKit
/-- A set of numbers lies in block g. -/
def SetAt (w : World) (g : Nat) (n : Int) (v : BitVec 64) : Prop := w.heap[g]? = some (.cells #[.int .i64 n, .int .u64 (qnum v)] 150 (0, 0))
theorem SetAt.lt {w : World} {g : Nat} {n : Int} {v : BitVec 64} (h : SetAt w g n v) : g < w.heap.size := (Array.getElem?_eq_some_iff.1 h).1
theorem SetAt.cells {w : World} {g : Nat} {n : Int} {v : BitVec 64} (h : SetAt w g n v) : w.cell? ⟨g, 0, none⟩ = some (.int .i64 n) ∧ w.cell? ⟨g, 1, none⟩ = some (.int .u64 (qnum v)) ∧ w.frozen? ⟨g, 1, none⟩ = false := by
  unfold SetAt at h
  exact ⟨by simp [World.cell?, h], by simp [World.cell?, h], frozen_of_row w g 1 _ _ h⟩
theorem SetAt.below {w w' : World} {g : Nat} {n : Int} {v : BitVec 64} (h : SetAt w g n v) (hb : Below w.heap.size w w') : SetAt w' g n v := by
  unfold SetAt at *
  rw [hb.block g (Array.getElem?_eq_some_iff.1 h).1]; exact h
/-- A set's bits are put anew. -/
theorem SetAt.put {w : World} {g : Nat} {n : Int} {v : BitVec 64} (h : SetAt w g n v) (x : Int) (v' : BitVec 64) (e : x = qnum v') : SetAt (w.setCell ⟨g, 1, none⟩ (.int .u64 x)).drew g n v' := by
  subst e
  exact heap_setCell_same _ _ _ _ _ _ h
theorem put_grown (w : World) (g : Nat) (x : Value) : w.grownBy (w.setCell ⟨g, 1, none⟩ x).drew (some g) :=
  ⟨rfl, rfl, rfl, by simp [World.drew], fun k _ hk => heap_setCell_other w ⟨g, 1, none⟩ k x (fun e => hk (by simp [e]))⟩
set_option maxRecDepth 100000 in
theorem newset_no (n : Int) (w : World) (h : n < 1 ∨ 64 < n) : Calls Tryz.prog 30 #[.int .i64 n] w fun e w' => e = .returned (.tuple #[.pointer none, .int .i64 1]) ∧ w = w' := by
  rcases h with h | h
  · go_enter Tryz.func30, Tryz.ntmps30
    go_wp2
    go_ret2
    exact ⟨rfl, rfl⟩
  · have h' : ¬ n < 1 := by omega
    go_enter Tryz.func30, Tryz.ntmps30
    go_wp2
    go_ret2
    exact ⟨rfl, rfl⟩
set_option maxRecDepth 100000 in
theorem newset_yes (n : Int) (w : World) (h1 : 1 ≤ n) (h2 : n ≤ 64) : Calls Tryz.prog 30 #[.int .i64 n] w fun e w' => e = .returned (.tuple #[.pointer (some ⟨w.heap.size, 0, none⟩), .int .i64 0]) ∧ SetAt w' w.heap.size n 0#64 ∧ Below w.heap.size w w' := by
  go_enter Tryz.func30, Tryz.ntmps30
  go_wp2
  go_ret2
  exact ⟨rfl, heap_alloc_new _ _, (Below.refl _ _).alloc (Nat.le_refl _) _⟩
set_option maxRecDepth 100000 in
theorem has_any (g : Nat) (n : Int) (v : BitVec 64) (p : Int) (w : World) (h : SetAt w g n v) (hn : n ≤ 64) : Calls Tryz.prog 33 #[.pointer (some ⟨g, 0, none⟩), .int .i64 p] w fun e w' => e = .returned (.bool (hasB n v p)) ∧ w = w' := by
  obtain ⟨c0, c1, _⟩ := h.cells
  clear h
  by_cases h1 : 0 ≤ p
  · obtain ⟨q, rfl⟩ := Int.eq_ofNat_of_zero_le h1
    by_cases h2 : (q : Int) < n
    · have ht := q_test v q
      by_cases hb : v.getLsbD q = true
      · have he : hasB n v q = true := by unfold hasB; rw [decide_eq_true h1, decide_eq_true h2, Int.toNat_natCast, hb]; rfl
        rw [he, if_pos hb] at *
        clear hb he
        go_enter Tryz.func33, Tryz.ntmps33
        go_wp2
        go_ret
        exact ⟨rfl, rfl⟩
      · have he : hasB n v q = false := by unfold hasB; rw [Int.toNat_natCast]; rw [Bool.not_eq_true] at hb; rw [hb]; simp
        rw [he]
        rw [if_neg hb] at ht
        clear hb he
        go_enter Tryz.func33, Tryz.ntmps33
        go_wp2
        go_ret
        exact ⟨rfl, rfl⟩
    · have he : hasB n v q = false := by unfold hasB; rw [decide_eq_false h2]; simp
      rw [he]
      clear he
      go_enter Tryz.func33, Tryz.ntmps33
      go_wp2
      go_ret
      exact ⟨rfl, rfl⟩
  · have he : hasB n v p = false := by unfold hasB; rw [decide_eq_false h1]; rfl
    rw [he]
    clear he
    go_enter Tryz.func33, Tryz.ntmps33
    go_wp2
    go_ret
    exact ⟨rfl, rfl⟩
theorem hasB_nat {n k : Nat} {v : BitVec 64} (h : k < n) : hasB n v k = v.getLsbD k := by
  unfold hasB
  rw [decide_eq_true (by omega : (0 : Int) ≤ k), decide_eq_true (by omega : (k : Int) < n), Int.toNat_natCast]; rfl
set_option maxRecDepth 100000 in
theorem take_no (g n : Nat) (v : BitVec 64) (w : World) (h : SetAt w g n v) (hn : n ≤ 64) (hf : firstF v n = n) :
    Calls Tryz.prog 41 #[.pointer (some ⟨g, 0, none⟩)] w fun e w' => e = .returned (.tuple #[.int .i64 0, .int .i64 5]) ∧ w = w' := by
  obtain ⟨c0, c1, _⟩ := h.cells
  have HS := Lib.hid h
  have HF := Lib.hid hf
  clear h hf
  go_enter Tryz.func41, Tryz.ntmps41
  go_wp2
  go_loop [9] (fun i => ∃ k : Nat, k ≤ n ∧ i = .int .i64 k) (fun i => n - (intOf i).toNat)
  case atStart => exact ⟨0, by omega, rfl⟩
  case round =>
    obtain ⟨k, hk, rfl⟩ := hrel
    by_cases hp : k < n
    · have hb : hasB n v k = true := by rw [hasB_nat hp]; exact firstF_below v n k (by rw [HF.out]; exact hp)
      go_wp2_with (go_at_call 33; refine (has_any _ _ _ _ _ HS.out (by omega)).mono ?_; rintro e w' ⟨rfl, rfl⟩)
      go_round
      case rel => exact ⟨k + 1, by omega, by go_num⟩
      case measure => simp [intOf] <;> omega
    · go_wp2
      go_ret2
      exact ⟨rfl, rfl⟩
set_option maxRecDepth 100000 in
theorem take_yes (g n k0 : Nat) (v : BitVec 64) (w : World) (h : SetAt w g n v) (hn : n ≤ 64) (hf : firstF v n = k0) (hk0 : k0 < n) :
    Calls Tryz.prog 41 #[.pointer (some ⟨g, 0, none⟩)] w fun e w' => e = .returned (.tuple #[.int .i64 k0, .int .i64 0]) ∧ SetAt w' g n (v ||| qbit k0) ∧ w.grownBy w' (some g) := by
  obtain ⟨c0, c1, cf⟩ := h.cells
  have HS := Lib.hid h
  have HF := Lib.hid hf
  clear h hf
  go_enter Tryz.func41, Tryz.ntmps41
  go_wp2
  go_loop [9] (fun i => ∃ k : Nat, k ≤ k0 ∧ i = .int .i64 k) (fun i => n - (intOf i).toNat)
  case atStart => exact ⟨0, by omega, rfl⟩
  case round =>
    obtain ⟨k, hk, rfl⟩ := hrel
    by_cases hp : k < k0
    · have hb : hasB n v k = true := by rw [hasB_nat (by omega)]; exact firstF_below v n k (by rw [HF.out]; exact hp)
      go_wp2_with (go_at_call 33; refine (has_any _ _ _ _ _ HS.out (by omega)).mono ?_; rintro e w' ⟨rfl, rfl⟩)
      go_round
      case rel => exact ⟨k + 1, by omega, by go_num⟩
      case measure => simp [intOf] <;> omega
    · have HE : Hid (k = k0) := by show _ = _; omega
      have hkn : k < n := by omega
      have hb : hasB n v k = false := by rw [hasB_nat hkn]; have := firstF_at v n (by rw [HF.out]; exact hk0); rw [HF.out] at this; rw [HE.out]; exact this
      have HQ := Lib.hid (q_put' v k (by omega))
      go_wp2_with (go_at_call 33; refine (has_any _ _ _ _ _ HS.out (by omega)).mono ?_; rintro e w' ⟨rfl, rfl⟩)
      go_region
      go_wp2
      go_ret2
      refine ⟨by rw [← HE.out]; rfl, ?_, put_grown _ _ _⟩
      rw [← HE.out]
      exact HS.out.put _ _ HQ.out
set_option maxRecDepth 100000 in
theorem free_no (g : Nat) (n : Int) (v : BitVec 64) (p : Int) (w : World) (h : SetAt w g n v) (hn : n ≤ 64) (hb : hasB n v p = false) :
    Calls Tryz.prog 48 #[.pointer (some ⟨g, 0, none⟩), .int .i64 p] w fun e w' => e = .returned (.int .i64 2) ∧ w = w' := by
  have HS := Lib.hid h
  clear h
  go_enter Tryz.func48, Tryz.ntmps48
  go_wp2_with (go_at_call 33; refine (has_any _ _ _ _ _ HS.out hn).mono ?_; rintro e w' ⟨rfl, rfl⟩)
  go_ret
  exact ⟨rfl, rfl⟩
set_option maxRecDepth 100000 in
theorem free_yes (g : Nat) (n : Int) (v : BitVec 64) (p : Nat) (w : World) (h : SetAt w g n v) (hn : n ≤ 64) (hb : hasB n v p = true) :
    Calls Tryz.prog 48 #[.pointer (some ⟨g, 0, none⟩), .int .i64 p] w fun e w' => e = .returned (.int .i64 0) ∧ SetAt w' g n (v &&& ~~~ qbit p) ∧ w.grownBy w' (some g) := by
  obtain ⟨c0, c1, cf⟩ := h.cells
  have hp : (p : Int) < n := by
    unfold hasB at hb
    simp only [Bool.and_eq_true, decide_eq_true_eq] at hb
    exact hb.2.1
  have HS := Lib.hid h
  have HQ := Lib.hid (q_drop' v p (by omega))
  clear h
  go_enter Tryz.func48, Tryz.ntmps48
  go_wp2_with (go_at_call 33; refine (has_any _ _ _ _ _ HS.out hn).mono ?_; rintro e w' ⟨rfl, rfl⟩)
  go_region
  go_wp2
  go_ret
  exact ⟨rfl, HS.out.put _ _ HQ.out, put_grown _ _ _⟩
set_option maxRecDepth 100000 in
theorem i64I : elemInfo Tryz.prog 3 .i64 8 := by unfold elemInfo; kernel_rfl
set_option maxRecDepth 100000 in
theorem i64T : Tryz.prog.underlying 43 = some (.slice 3) := Tryz.underlying43
/-- A variable in block h that holds a row of the call's own. -/
structure OutAt (w : World) (h : Nat) (v : Value) (l : List Int) : Prop where
  row : w.heap[h]? = some (.cells #[v] 43 (0, 0))
  own : Owns .i64 3 w (h + 1) v l
set_option maxRecDepth 100000 in
theorem list1_any (h : Nat) (v : Value) (l : List Int) (p : Int) (w : World) (ho : OutAt w h v l) (hl : l.length ≤ 1000000) (hp : (Lit.int .i64 p).wf = true) :
    Calls Tryz.prog 97 #[.int .i64 p, .pointer (some ⟨h, 0, none⟩)] w fun e w' => e = .returned (.bool true) ∧ (∃ v', OutAt w' h v' (l ++ [p])) ∧ Below h w w' := by
  have hr := ho.row
  have hlt : h < w.heap.size := (Array.getElem?_eq_some_iff.1 hr).1
  obtain ⟨a, c, hv⟩ := ho.own.shape
  have how := ho.own
  subst hv
  have c0 : w.cell? ⟨h, 0, none⟩ = some (.slice a l.length c) := by rw [cell_of_row w _ _ _ _ _ hr]; rfl
  have cf : w.frozen? ⟨h, 0, none⟩ = false := frozen_of_row w _ _ _ _ hr
  have HR := Lib.hid hr
  clear hr ho
  go_enter Tryz.func97, Tryz.ntmps97
  have hne : ∀ g, room (.slice a l.length c) = some g → some g ≠ some h := fun g hg e => by
    injection e with e
    have := (how.at_base g hg).1
    omega
  have HN := Lib.hid hne
  clear hne
  go_wp2_with (at_builtin; refine app_one i64T i64I (by decide) rfl (.tmp 4) (.tmp 6) rfl _ (h + 1) _ l rfl how _ rfl hp (by omega) (by omega) ?_; intro v2 w2 ho2 hg2; obtain ⟨a2, k2, rfl⟩ := ho2.shapeN (l.length + 1) (by simp); have hr2 := (hg2.1.block h hlt (fun e => HN.out h e.symm rfl)).trans HR.out; have c2 : w2.cell? ⟨h, 0, none⟩ = some (.slice a l.length c) := (by (rw [cell_of_row w2 _ _ _ _ _ hr2]; rfl)); have cf2 : w2.frozen? ⟨h, 0, none⟩ = false := frozen_of_row w2 _ _ _ _ hr2; have HR2 := Lib.hid hr2; clear hr2)
  go_ret
  have hB : Below h w w2 := hg2.below (by omega) (fun g hg => by have := (how.at_base g hg).1; omega)
  refine ⟨rfl, ⟨_, heap_setCell_same _ _ _ _ _ _ HR2.out, ho2.grown (row := some h) ⟨rfl, rfl, rfl, by simp, fun k _ hk => heap_setCell_other w2 ⟨h, 0, none⟩ k _ (fun e => hk (by simp [e]))⟩ (fun g hg e => ?_)⟩, hB.setCell (Nat.le_refl _) _⟩
  injection e with e
  have := (ho2.at_base g hg).1
  omega
theorem OutAt.below {w w' : World} {h : Nat} {v : Value} {l : List Int} (o : OutAt w h v l) (hb : Below w.heap.size w w') : OutAt w' h v l :=
  ⟨by have := o.row; rw [hb.block h (Array.getElem?_eq_some_iff.1 this).1]; exact this, o.own.below hb⟩
set_option maxRecDepth 100000 in
theorem each_list (g n h : Nat) (v : BitVec 64) (w : World) (hs : SetAt w g n v) (hn : n ≤ 64) (hgh : g < h) (ho : ∃ x, OutAt w h x []) :
    Calls Tryz.prog 96 #[.pointer (some ⟨g, 0, none⟩), .func (.func 97) #[] #[.pointer (some ⟨h, 0, none⟩)]] w fun e w' => e = .returned (.tuple #[]) ∧ (∃ x, OutAt w' h x (pidsK v n)) ∧ Below h w w' := by
  obtain ⟨c0, c1, cf⟩ := hs.cells
  have HS := Lib.hid hs
  have HO := Lib.hid ho
  clear hs ho
  go_enter Tryz.func96, Tryz.ntmps96
  go_wp2_with fail
  go_loopw [9] (fun i wr => ∃ k : Nat, k ≤ n ∧ i = .int .i64 k ∧ SetAt wr g n v ∧ (∃ x, OutAt wr h x (pidsK v k)) ∧ Below h w wr) (fun i _ => n - (intOf i).toNat)
  case atStart => exact ⟨0, by omega, rfl, HS.out, HO.out, Below.refl _ _⟩
  case round =>
    obtain ⟨k, hk, rfl, hs, ho, hb⟩ := hrel
    clear c0 c1 cf
    obtain ⟨c0, c1, cf⟩ := hs.cells
    have HS1 := Lib.hid hs
    have hgl := hs.lt
    clear hs
    obtain ⟨x, ho⟩ := ho
    have hsz := pidsK_le v k
    have HO1 := Lib.hid ho
    clear ho
    by_cases hp : k < n
    · by_cases hb1 : v.getLsbD k = true
      · have hbk : hasB n v k = true := by rw [hasB_nat hp]; exact hb1
        have HX : Hid (pidsK v (k + 1) = pidsK v k ++ [(k : Int)]) := by show _ = _; rw [pidsK, if_pos hb1]
        clear hb1
        go_wp2_with (first | (go_at_call 33; refine (has_any _ _ _ _ _ HS1.out (by omega)).mono ?_; rintro e w' ⟨rfl, rfl⟩) | (go_at_call 97; refine (list1_any _ _ _ _ _ HO1.out (by omega) (WalkArith.wf_i64 (by omega))).mono ?_; rintro e w2 ⟨rfl, ho2, hb2⟩))
        go_roundw
        case rel => exact ⟨k + 1, by omega, by go_num, by unfold SetAt; rw [hb2.block g hgh]; exact HS1.out, by rw [HX.out]; exact ho2, hb.trans hb2⟩
        case measure => simp [intOf] <;> omega
      · have hbk : hasB n v k = false := by rw [hasB_nat hp]; simpa using hb1
        have HX : Hid (pidsK v (k + 1) = pidsK v k) := by show _ = _; rw [pidsK, if_neg hb1]
        clear hb1
        go_wp2_with (first | (go_at_call 33; refine (has_any _ _ _ _ _ HS1.out (by omega)).mono ?_; rintro e w' ⟨rfl, rfl⟩))
        go_roundw
        case rel => exact ⟨k + 1, by omega, by go_num, HS1.out, by rw [HX.out]; exact ⟨_, HO1.out⟩, hb⟩
        case measure => simp [intOf] <;> omega
    · obtain rfl : k = n := by omega
      go_wp2_with fail
      go_end0
      exact ⟨rfl, ⟨_, HO1.out⟩, hb⟩
/-- Ends with a row of numbers of its own. -/
def GivesPids (l : List Int) (w : World) (e : Ending) (w' : World) : Prop := ∃ v, e = .returned v ∧ Owns .i64 3 w' w.heap.size v l ∧ Below w.heap.size w w'
set_option maxRecDepth 100000 in
theorem list_any (g n : Nat) (v : BitVec 64) (w : World) (hs : SetAt w g n v) (hn : n ≤ 64) :
    Calls Tryz.prog 50 #[.pointer (some ⟨g, 0, none⟩)] w (GivesPids (pidsK v n) w) := by
  have hlt := hs.lt
  have hs1 : SetAt (w.alloc (.cells #[.slice none 0 0] 43)) g n v := hs.below ((Below.refl _ _).alloc (Nat.le_refl _) _)
  have ho : OutAt (w.alloc (.cells #[.slice none 0 0] 43)) w.heap.size (.slice none 0 0) [] := ⟨heap_alloc_new _ _, Owns.nil _ _ _ _⟩
  clear hs
  go_enter Tryz.func50, Tryz.ntmps50
  go_wp2_with fail
  refine (each_list _ _ _ _ _ hs1 hn hlt ⟨_, ho⟩).mono ?_
  rintro e w2 ⟨rfl, ⟨x, ho2⟩, hb⟩
  have hr2 := ho2.row
  have how := ho2.own
  obtain ⟨a, c, hx⟩ := how.shape
  subst hx
  have c2 : w2.cell? ⟨w.heap.size, 0, none⟩ = some (.slice a (pidsK v n).length c) := by rw [cell_of_row w2 _ _ _ _ _ hr2]; rfl
  clear hr2 ho2 ho
  go_wp2_with fail
  go_ret
  exact ⟨_, rfl, how.mono (by omega), ((Below.refl w.heap.size w).alloc (Nat.le_refl _) _).trans hb⟩
set_option maxRecDepth 100000 in
theorem len_any (g n : Nat) (v : BitVec 64) (w : World) (hs : SetAt w g n v) (hn : n ≤ 64) :
    Calls Tryz.prog 32 #[.pointer (some ⟨g, 0, none⟩)] w fun e w' => e = .returned (.int .i64 ((pidsK v n).length : Nat)) ∧ Below w.heap.size w w' := by
  go_enter Tryz.func32, Tryz.ntmps32
  go_wp2_with fail
  refine (list_any _ _ _ _ hs hn).mono ?_
  rintro e w2 ⟨v2, rfl, ho2, hb⟩
  obtain ⟨a, c, rfl⟩ := ho2.shape
  clear ho2
  go_wp2_with fail
  go_ret
  exact ⟨rfl, hb⟩
end Go.Proofs.YtnbjodoajfkekaaGreat

namespace Go.Proofs.YtnbjodoajfkekaaGreat
open Go.RowKit
def bvals (v : BitVec 64) (n : Nat) : List Value := (List.range n).map fun i => .bool (v.getLsbD i)
theorem bvals_len (v : BitVec 64) (n : Nat) : (bvals v n).length = n := by simp [bvals]
theorem bvals_at (v : BitVec 64) {n i : Nat} (h : i < n) : (bvals v n)[i]? = some (.bool (v.getLsbD i)) := by simp [bvals, h]
theorem bvals_out (v : BitVec 64) {n i : Nat} (h : n ≤ i) : (bvals v n)[i]? = none := by simp [bvals, h]
theorem bvals_set (v v' : BitVec 64) {n k : Nat} (b : Bool) (hk : k < n) (h : ∀ i, i < n → v'.getLsbD i = if k = i then b else v.getLsbD i) : (bvals v n).set k (.bool b) = bvals v' n := by
  apply List.ext_getElem?
  intro i
  rw [List.getElem?_set, bvals_len]
  by_cases hi : i < n
  · rw [bvals_at v' hi, bvals_at v hi, h i hi]
    by_cases e : k = i
    · rw [if_pos e, if_pos hk, if_pos e]
    · rw [if_neg e, if_neg e]
  · rw [bvals_out v' (by omega), bvals_out v (by omega)]
    by_cases e : k = i
    · omega
    · rw [if_neg e]
theorem bvals_put (v : BitVec 64) {n k : Nat} (hn : n ≤ 64) (hk : k < n) : (bvals v n).set k (.bool true) = bvals (v ||| qbit k) n :=
  bvals_set v _ true hk fun i hi => by
    rw [put_get _ _ _ (by omega)]
    by_cases e : k = i
    · rw [if_pos e, decide_eq_true e.symm]; simp
    · rw [if_neg e, decide_eq_false (fun h => e h.symm)]; simp
theorem bvals_drop (v : BitVec 64) {n k : Nat} (hn : n ≤ 64) (hk : k < n) : (bvals v n).set k (.bool false) = bvals (v &&& ~~~ qbit k) n :=
  bvals_set v _ false hk fun i hi => by
    rw [drop_get _ _ _ (by omega)]
    by_cases e : k = i
    · rw [if_pos e, decide_eq_true e.symm]; simp
    · rw [if_neg e, decide_eq_false (fun h => e h.symm)]; simp
theorem bvals_zero (n : Nat) : List.replicate n (.bool false) = bvals 0#64 n := by
  apply List.ext_getElem?
  intro i
  by_cases hi : i < n
  · rw [bvals_at _ hi, List.getElem?_replicate, if_pos hi]; simp
  · rw [bvals_out _ (by omega), List.getElem?_replicate, if_neg hi]
/-- The reference's set: its own block g, its bools' row in block h. -/
structure RSetAt (w : World) (g h n : Nat) (v : BitVec 64) : Prop where
  row : w.heap[g]? = some (.cells #[.slice (some ⟨h, 0, none⟩) n n] 140 (0, 0))
  own : w.heap[h]? = some (.cells (bvals v n).toArray 4 (0, 0))
  ne : g ≠ h
theorem RSetAt.lt {w : World} {g h n : Nat} {v : BitVec 64} (r : RSetAt w g h n v) : g < w.heap.size ∧ h < w.heap.size := ⟨(Array.getElem?_eq_some_iff.1 r.row).1, (Array.getElem?_eq_some_iff.1 r.own).1⟩
theorem RSetAt.below {w w' : World} {g h n : Nat} {v : BitVec 64} (r : RSetAt w g h n v) (hb : Below w.heap.size w w') : RSetAt w' g h n v :=
  ⟨by rw [hb.block g r.lt.1]; exact r.row, by rw [hb.block h r.lt.2]; exact r.own, r.ne⟩
theorem RSetAt.grown {w w' : World} {g h n k : Nat} {v : BitVec 64} (r : RSetAt w g h n v) (hb : w.grownBy w' (some k)) (h1 : g ≠ k) (h2 : h ≠ k) : RSetAt w' g h n v :=
  ⟨by rw [hb.block g r.lt.1 (fun e => h1 (Option.some.inj e))]; exact r.row, by rw [hb.block h r.lt.2 (fun e => h2 (Option.some.inj e))]; exact r.own, r.ne⟩
theorem SetAt.grown {w w' : World} {g k : Nat} {n : Int} {v : BitVec 64} (r : SetAt w g n v) (hb : w.grownBy w' (some k)) (h1 : g ≠ k) : SetAt w' g n v := by
  unfold SetAt at *
  rw [hb.block g (Array.getElem?_eq_some_iff.1 r).1 (fun e => h1 (Option.some.inj e))]; exact r
theorem RSetAt.head {w : World} {g h n : Nat} {v : BitVec 64} (r : RSetAt w g h n v) : w.cell? ⟨g, 0, none⟩ = some (.slice (some ⟨h, 0, none⟩) n n) := by rw [cell_of_row w _ _ _ _ _ r.row]; rfl
theorem RSetAt.bit {w : World} {g h n : Nat} {v : BitVec 64} (r : RSetAt w g h n v) {i : Nat} (hi : i < n) : w.cell? ⟨h, i, none⟩ = some (.bool (v.getLsbD i)) := by
  rw [cell_of_row w _ _ _ _ _ r.own, ← bvals_at v hi]; simp
theorem RSetAt.free {w : World} {g h n : Nat} {v : BitVec 64} (r : RSetAt w g h n v) (i : Nat) : w.frozen? ⟨h, i, none⟩ = false := frozen_of_row w _ _ _ _ r.own
theorem set_grown (w : World) (g i : Nat) (x : Value) : w.grownBy (w.setCell ⟨g, i, none⟩ x) (some g) :=
  ⟨rfl, rfl, rfl, by simp, fun k _ hk => heap_setCell_other w ⟨g, i, none⟩ k x (fun e => hk (by simp [e]))⟩
theorem RSetAt.set {w : World} {g h n : Nat} {v v' : BitVec 64} (r : RSetAt w g h n v) (i : Nat) (b : Bool) (hs : (bvals v n).set i (.bool b) = bvals v' n) : RSetAt (w.setCell ⟨h, i, none⟩ (.bool b)) g h n v' := by
  refine ⟨?_, ?_, r.ne⟩
  · rw [heap_setCell_other w ⟨h, i, none⟩ g _ (fun e => r.ne e)]; exact r.row
  · rw [heap_setCell_same w h i _ _ _ r.own, ← hs]
    simp
theorem heap_alloc_old (w : World) (o : Obj) {k : Nat} (h : k < w.heap.size) : (w.alloc o).heap[k]? = w.heap[k]? := by
  show (w.heap.push o)[k]? = _
  simp [Array.getElem?_push, Nat.ne_of_lt h]
set_option maxRecDepth 100000 in
theorem rnew_no (n : Int) (w : World) (h : n < 1 ∨ 64 < n) : Calls Tryz.prog 31 #[.int .i64 n] w fun e w' => e = .returned (.tuple #[.pointer none, .int .i64 1]) ∧ w = w' := by
  rcases h with h | h
  · go_enter Tryz.func31, Tryz.ntmps31
    go_wp2
    go_ret2
    exact ⟨rfl, rfl⟩
  · have h' : ¬ n < 1 := by omega
    go_enter Tryz.func31, Tryz.ntmps31
    go_wp2
    go_ret2
    exact ⟨rfl, rfl⟩
set_option maxRecDepth 100000 in
theorem boolI : (Tryz.prog.info? 4).map (fun i => (i.zero, i.size, i.bytes)) = some (some (.bool false), 1, 1) := by kernel_rfl
set_option maxRecDepth 100000 in
theorem rnew_yes (n : Nat) (w : World) (h1 : 1 ≤ n) (h2 : n ≤ 64) : Calls Tryz.prog 31 #[.int .i64 n] w fun e w' => ∃ g h, e = .returned (.tuple #[.pointer (some ⟨g, 0, none⟩), .int .i64 0]) ∧ w.heap.size ≤ g ∧ w.heap.size ≤ h ∧ RSetAt w' g h n 0#64 ∧ Below w.heap.size w w' := by
  obtain ⟨i0, hi, hz0, hz1, hz2⟩ := info_parts boolI
  go_enter Tryz.func31, Tryz.ntmps31
  go_wp2_with (refine wpList_make_full _ rfl _ _ 138 rfl w.heap.size 4 i0 (.bool false) 1 Tryz.underlying138 hi hz0 hz1 .i64 .i64 _ _ n rfl rfl rfl rfl (by rw [hz2]; omega) (by unfold maxLen; omega) (Nat.le_refl _) ?_; intro w1 ho1 hg1)
  go_ret2
  have hsz := hg1.size
  have hlt : w.heap.size < w1.heap.size := (ho1.lt _ rfl).2
  refine ⟨_, _, rfl, hsz, Nat.le_refl _, ⟨heap_alloc_new _ _, ?_, by omega⟩, ((Below.refl w.heap.size w).grown hg1 (Nat.le_refl _) (fun _ h => by cases h)).trans (((Below.refl w1.heap.size w1).alloc (Nat.le_refl _) _).mono hsz)⟩
  rw [heap_alloc_old _ _ hlt]
  rcases ho1.2 with ⟨hv, _⟩ | ⟨g', cap, cur, hv, _, hh, _, _, hcs, htake⟩
  · simp at hv
  · simp only [Value.slice.injEq, Option.some.injEq, Addr.mk.injEq, and_true, true_and] at hv
    obtain ⟨rfl, rfl⟩ := hv
    rw [hh]
    congr 2
    rw [show (Value.bool false).cells = #[.bool false] from rfl, toList_madeCells_one, Nat.mul_one, bvals_zero, List.take_of_length_le (by rw [Array.length_toList, hcs]; omega)] at htake
    rw [← htake]
set_option maxRecDepth 100000 in
theorem rhas_any (g h n : Nat) (v : BitVec 64) (p : Int) (w : World) (r : RSetAt w g h n v) : Calls Tryz.prog 37 #[.pointer (some ⟨g, 0, none⟩), .int .i64 p] w fun e w' => e = .returned (.bool (hasB n v p)) ∧ w = w' := by
  have c0 := r.head
  by_cases h1 : 0 ≤ p
  · obtain ⟨q, rfl⟩ := Int.eq_ofNat_of_zero_le h1
    by_cases h2 : q < n
    · have c1 := r.bit h2
      have he : hasB n v q = v.getLsbD q := hasB_nat h2
      rw [he]
      clear r he
      go_enter Tryz.func37, Tryz.ntmps37
      go_wp2
      go_ret
      exact ⟨rfl, rfl⟩
    · have he : hasB n v q = false := by unfold hasB; rw [decide_eq_false (by omega : ¬ (q : Int) < n)]; simp
      rw [he]
      clear r he
      go_enter Tryz.func37, Tryz.ntmps37
      go_wp2
      go_ret
      exact ⟨rfl, rfl⟩
  · have he : hasB n v p = false := by unfold hasB; rw [decide_eq_false h1]; rfl
    rw [he]
    clear r he
    go_enter Tryz.func37, Tryz.ntmps37
    go_wp2
    go_ret
    exact ⟨rfl, rfl⟩
set_option maxRecDepth 100000 in
theorem rtake_no (g h n : Nat) (v : BitVec 64) (w : World) (r : RSetAt w g h n v) (hn : n ≤ 64) (hf : firstF v n = n) :
    Calls Tryz.prog 51 #[.pointer (some ⟨g, 0, none⟩)] w fun e w' => e = .returned (.tuple #[.int .i64 0, .int .i64 5]) ∧ w = w' := by
  have c0 := r.head
  have R := Lib.hid r
  have HF := Lib.hid hf
  clear r hf
  go_enter Tryz.func51, Tryz.ntmps51
  go_wp2
  go_loop [4] (fun i => ∃ k : Nat, k ≤ n ∧ i = .int .i64 k) (fun i => n - (intOf i).toNat)
  case atStart => exact ⟨0, by omega, rfl⟩
  case round =>
    obtain ⟨k, hk, rfl⟩ := hrel
    by_cases hp : k < n
    · have c1 := R.out.bit hp
      rw [firstF_below v n k (by rw [HF.out]; exact hp)] at c1
      go_wp2
      go_round
      case rel => exact ⟨k + 1, by omega, by go_num⟩
      case measure => simp [intOf] <;> omega
    · go_wp2
      go_ret2
      exact ⟨rfl, rfl⟩
set_option maxRecDepth 100000 in
theorem rtake_yes (g h n k0 : Nat) (v : BitVec 64) (w : World) (r : RSetAt w g h n v) (hn : n ≤ 64) (hf : firstF v n = k0) (hk0 : k0 < n) :
    Calls Tryz.prog 51 #[.pointer (some ⟨g, 0, none⟩)] w fun e w' => e = .returned (.tuple #[.int .i64 k0, .int .i64 0]) ∧ RSetAt w' g h n (v ||| qbit k0) ∧ w.grownBy w' (some h) := by
  have c0 := r.head
  have R := Lib.hid r
  have HF := Lib.hid hf
  clear r hf
  go_enter Tryz.func51, Tryz.ntmps51
  go_wp2
  go_loop [4] (fun i => ∃ k : Nat, k ≤ k0 ∧ i = .int .i64 k) (fun i => n - (intOf i).toNat)
  case atStart => exact ⟨0, by omega, rfl⟩
  case round =>
    obtain ⟨k, hk, rfl⟩ := hrel
    by_cases hp : k < k0
    · have c1 := R.out.bit (i := k) (by omega)
      rw [firstF_below v n k (by rw [HF.out]; exact hp)] at c1
      go_wp2
      go_round
      case rel => exact ⟨k + 1, by omega, by go_num⟩
      case measure => simp [intOf] <;> omega
    · have HE : Hid (k = k0) := by show _ = _; omega
      have hkn : k < n := by omega
      have c1 := R.out.bit hkn
      have hbf := firstF_at v n (by rw [HF.out]; exact hk0)
      rw [HF.out, ← HE.out] at hbf
      rw [hbf] at c1
      have cf := R.out.free k
      have HS := Lib.hid (bvals_put v hn hkn)
      clear hbf
      go_wp2
      go_ret2
      refine ⟨by rw [← HE.out]; rfl, ?_, set_grown _ _ _ _⟩
      rw [← HE.out]
      exact R.out.set _ _ HS.out
set_option maxRecDepth 100000 in
theorem rfree_no (g h n : Nat) (v : BitVec 64) (p : Int) (w : World) (r : RSetAt w g h n v) (hb : hasB n v p = false) :
    Calls Tryz.prog 55 #[.pointer (some ⟨g, 0, none⟩), .int .i64 p] w fun e w' => e = .returned (.int .i64 2) ∧ w = w' := by
  have R := Lib.hid r
  clear r
  go_enter Tryz.func55, Tryz.ntmps55
  go_wp2_with (go_at_call 37; refine (rhas_any _ _ _ _ _ _ R.out).mono ?_; rintro e w' ⟨rfl, rfl⟩)
  go_ret
  exact ⟨rfl, rfl⟩
set_option maxRecDepth 100000 in
theorem rfree_yes (g h n : Nat) (v : BitVec 64) (p : Nat) (w : World) (r : RSetAt w g h n v) (hn : n ≤ 64) (hb : hasB n v p = true) :
    Calls Tryz.prog 55 #[.pointer (some ⟨g, 0, none⟩), .int .i64 p] w fun e w' => e = .returned (.int .i64 0) ∧ RSetAt w' g h n (v &&& ~~~ qbit p) ∧ w.grownBy w' (some h) := by
  have hp : (p : Int) < n := by
    unfold hasB at hb
    simp only [Bool.and_eq_true, decide_eq_true_eq] at hb
    exact hb.2.1
  have hpn : p < n := by omega
  have c0 := r.head
  have c1 := r.bit hpn
  have cf := r.free p
  have R := Lib.hid r
  have HS := Lib.hid (bvals_drop v hn hpn)
  clear r
  go_enter Tryz.func55, Tryz.ntmps55
  go_wp2_with (go_at_call 37; refine (rhas_any _ _ _ _ _ _ R.out).mono ?_; rintro e w' ⟨rfl, rfl⟩)
  go_ret
  exact ⟨rfl, R.out.set _ _ HS.out, set_grown _ _ _ _⟩
set_option maxRecDepth 100000 in
theorem rlist_any (g h n : Nat) (v : BitVec 64) (w : World) (r : RSetAt w g h n v) (hn : n ≤ 64) :
    Calls Tryz.prog 36 #[.pointer (some ⟨g, 0, none⟩)] w (GivesPids (pidsK v n) w) := by
  have R := Lib.hid r
  clear r
  go_enter Tryz.func36, Tryz.ntmps36
  go_wp2_with fail
  go_loopw [3, 4] (fun x i wr => ∃ k : Nat, k ≤ n ∧ i = .int .i64 k ∧ Owns .i64 3 wr w.heap.size x (pidsK v k) ∧ Below w.heap.size w wr) (fun _ i _ => n - (intOf i).toNat)
  case atStart => exact ⟨0, by omega, rfl, Owns.nil _ _ _ _, Below.refl _ _⟩
  case round =>
    obtain ⟨k, hk, rfl, ow, hb⟩ := hrel
    have R1 := Lib.hid (R.out.below hb)
    have c0 := R1.out.head
    have hsz := hb.size
    have hpk := pidsK_le v k
    obtain ⟨q, hq⟩ : ∃ q, (pidsK v k).length = q := ⟨_, rfl⟩
    obtain ⟨a, c, rfl⟩ := ow.shapeN q hq
    rw [hq] at hpk
    have HQ := Lib.hid hq
    have OW := Lib.hid ow
    clear ow hq
    by_cases hp : k < n
    · have c1 := R1.out.bit hp
      by_cases hb1 : v.getLsbD k = true
      · rw [hb1] at c1
        have HX : Hid (pidsK v (k + 1) = pidsK v k ++ [(k : Int)]) := by show _ = _; rw [pidsK, if_pos hb1]
        clear hb1
        go_wp2_with (at_builtin; refine app_one i64T i64I (by decide) rfl (.tmp 21) (.tmp 23) rfl _ w.heap.size _ (pidsK v k) rfl OW.out _ rfl (WalkArith.wf_i64 (by omega)) (by rw [HQ.out]; omega) (by omega) ?_; intro v2 w2 ho2 hg2)
        have hb2 : Below w.heap.size w w2 := hb.trans (hg2.below hsz (fun g hg => (OW.out.at_base g hg).1))
        go_roundw
        case rel => exact ⟨k + 1, by omega, by go_num, by rw [HX.out]; exact ho2, hb2⟩
        case measure => simp [intOf] <;> omega
      · rw [Bool.not_eq_true] at hb1
        rw [hb1] at c1
        have HX : Hid (pidsK v (k + 1) = pidsK v k) := by show _ = _; rw [pidsK, if_neg (by rw [hb1]; decide)]
        clear hb1
        go_wp2_with fail
        go_roundw
        case rel => exact ⟨k + 1, by omega, by go_num, by rw [HX.out]; exact OW.out, hb⟩
        case measure => simp [intOf] <;> omega
    · obtain rfl : k = n := by omega
      go_wp2_with fail
      go_ret
      exact ⟨_, rfl, OW.out, hb⟩
end Go.Proofs.YtnbjodoajfkekaaGreat

namespace Go.Proofs.YtnbjodoajfkekaaGreat
open Go.RowKit
/-- No number from n on is in it. -/
def lowB (v : BitVec 64) (n : Nat) : Prop := ∀ i, n ≤ i → v.getLsbD i = false
theorem lowB_lt {v : BitVec 64} {n : Nat} (h : lowB v n) : v.toNat < 2 ^ n :=
  Nat.lt_pow_two_of_testBit _ fun i hi => by have := h i hi; rw [BitVec.getLsbD] at this; exact this
theorem lowB_zero (n : Nat) : lowB 0#64 n := fun i _ => by simp
theorem lowB_put {v : BitVec 64} {n k : Nat} (h : lowB v n) (hk : k < n) : lowB (v ||| qbit k) n := fun i hi => by
  by_cases h64 : i < 64
  · rw [put_get _ _ _ h64, h i hi, decide_eq_false (by omega)]; rfl
  · rw [BitVec.getLsbD_of_ge _ _ (by omega)]
theorem lowB_drop {v : BitVec 64} {n k : Nat} (h : lowB v n) : lowB (v &&& ~~~ qbit k) n := fun i hi => by
  rw [BitVec.getLsbD_and, h i hi]; rfl
theorem bits_step (v : BitVec 64) (j : Nat) : 2 * (qnum v / 2 ^ (j + 1)) + (if v.getLsbD j = true then 1 else 0) = qnum v / 2 ^ j := by
  unfold qnum
  have h1 : (v.toNat : Int) / 2 ^ j = ((v.toNat / 2 ^ j : Nat) : Int) := by simp
  have h2 : (v.toNat : Int) / 2 ^ (j + 1) = ((v.toNat / 2 ^ j / 2 : Nat) : Int) := by rw [Nat.div_div_eq_div_mul, ← Nat.pow_succ]; simp
  have h3 : v.getLsbD j = decide (v.toNat / 2 ^ j % 2 = 1) := by rw [BitVec.getLsbD, Nat.testBit_eq_decide_div_mod_eq]
  rw [h1, h2, h3]
  by_cases hb : v.toNat / 2 ^ j % 2 = 1
  · rw [decide_eq_true hb, if_pos rfl]; omega
  · rw [decide_eq_false hb, if_neg (by decide)]; omega
/-- What a row of numbers, taken first, makes: none where one may not be. -/
def ofL (n : Int) : BitVec 64 → List Int → Option (BitVec 64)
  | v, [] => some v
  | v, p :: r => if 0 ≤ p ∧ p < n ∧ v.getLsbD p.toNat = false then ofL n (v ||| qbit p.toNat) r else none
end Go.Proofs.YtnbjodoajfkekaaGreat

namespace Go.Proofs.YtnbjodoajfkekaaGreat
open Go.RowKit
/-- What Of answers. -/
def OfPost (n : Int) (r : Option (BitVec 64)) (w : World) (e : Ending) (w' : World) : Prop :=
  Below w.heap.size w w' ∧ ((r = none ∧ e = .returned (.tuple #[.pointer none, .int .i64 1])) ∨ ∃ v g, r = some v ∧ e = .returned (.tuple #[.pointer (some ⟨g, 0, none⟩), .int .i64 0]) ∧ w.heap.size ≤ g ∧ SetAt w' g n v)
def ROfPost (n : Nat) (r : Option (BitVec 64)) (w : World) (e : Ending) (w' : World) : Prop :=
  Below w.heap.size w w' ∧ ((r = none ∧ e = .returned (.tuple #[.pointer none, .int .i64 1])) ∨ ∃ v g h, r = some v ∧ e = .returned (.tuple #[.pointer (some ⟨g, 0, none⟩), .int .i64 0]) ∧ w.heap.size ≤ g ∧ w.heap.size ≤ h ∧ RSetAt w' g h n v)
theorem belowNp {B : Nat} {a w : World} (h : Below B a w) (n : Nat) : Below B a (w.drewN n) := ⟨h.os, h.tape, h.output, h.size, h.block⟩
theorem RSetAt.drawN {w : World} {g h n : Nat} {v : BitVec 64} (r : RSetAt w g h n v) (k : Nat) : RSetAt (w.drewN k) g h n v := ⟨r.row, r.own, r.ne⟩
theorem ofL_drop {n : Int} {v : BitVec 64} {l : List Int} {k : Nat} (hk : k < l.length) :
    ofL n v (l.drop k) = if 0 ≤ nth l k ∧ nth l k < n ∧ v.getLsbD (nth l k).toNat = false then ofL n (v ||| qbit (nth l k).toNat) (l.drop (k + 1)) else none := by
  rw [List.drop_eq_getElem_cons hk, ← nth_eq hk]; rfl
set_option linter.unusedVariables false in
set_option maxRecDepth 100000 in
set_option maxHeartbeats 1000000 in
theorem of_any (n : Nat) (a : Option Addr) (np cp : Nat) (lp : List Int) (w : World) (hr : RdAt .i64 w a np cp lp) (h1 : 1 ≤ n) (h2 : n ≤ 64) (R : Option (BitVec 64)) (hR : ofL n 0#64 lp = R) :
    Calls Tryz.prog 73 #[.int .i64 n, .slice a np cp] w (OfPost n R w) := by
  have hlen := hr.len
  have hmax := hr.max
  have hcap := hr.cap
  unfold maxLen at hmax
  have HR := Lib.hid hr
  have HL := Lib.hid hlen
  have HRR := Lib.hid hR
  clear hr hlen hR
  go_enter Tryz.func73, Tryz.ntmps73
  go_wp2_with fail
  refine (newset_yes n w (by omega) (by omega)).mono ?_
  rintro e w1 ⟨rfl, hs, hb⟩
  have HS := Lib.hid hs
  clear hs
  go_wp2_with fail
  go_loopw [20] (fun i wr => ∃ (k : Nat) (v : BitVec 64), k ≤ np ∧ i = .int .i64 k ∧ SetAt wr w.heap.size n v ∧ Below w.heap.size w wr ∧ Hid (ofL n v (lp.drop k) = R)) (fun i _ => np - (intOf i).toNat)
  case atStart => exact ⟨0, _, by omega, rfl, HS.out, hb, HRR⟩
  case round =>
    clear HS hb
    obtain ⟨k, v, hk, rfl, hs, hb, HO⟩ := hrel
    obtain ⟨c0, c1, cf⟩ := hs.cells
    have HS := Lib.hid hs
    have hb' := hb
    have HB := Lib.hid hb
    clear hs hb
    by_cases hp : k < np
    · obtain ⟨b, ad, rfl, hcell⟩ := (HR.out.below hb').cell k hp
      have hpw := wf_i64_bd (HR.out.wfAt k hp)
      have hst := ofL_drop (n := n) (v := v) (l := lp) (k := k) (by rw [HL.out]; exact hp)
      obtain ⟨p, hpe⟩ : ∃ p, nth lp k = p := ⟨_, rfl⟩
      rw [hpe] at hcell hpw hst
      clear hpe hb'
      have no : ¬ (0 ≤ p ∧ p < n ∧ v.getLsbD p.toNat = false) → R = none := by
        intro hn
        rw [if_neg hn] at hst
        rw [← HO.out, hst]
      by_cases hp0 : p < 0
      · have hd0 : decide (p < 0) = true := decide_eq_true hp0
        have hno := no (by omega)
        clear no hst
        subst hno
        go_wp2_with fail
        go_ret2
        exact ⟨HB.out, .inl ⟨rfl, rfl⟩⟩
      · have hd0 : decide (p < 0) = false := decide_eq_false hp0
        obtain ⟨q, rfl⟩ := Int.eq_ofNat_of_zero_le (show 0 ≤ p by omega)
        by_cases hpn : (q : Int) < n
        · have hd1 : decide ((n : Int) ≤ q) = false := decide_eq_false (by omega)
          have hd1n : decide (n ≤ q) = false := decide_eq_false (by omega)
          have hqn : q < n := by omega
          by_cases hv : v.getLsbD q = true
          · have hbk : hasB n v q = true := by rw [hasB_nat hqn]; exact hv
            have hno := no (by rw [Int.toNat_natCast, hv]; simp)
            clear no hst hv
            subst hno
            go_wp2_with (go_at_call 33; refine (has_any _ _ _ _ _ HS.out (by omega)).mono ?_; rintro e w' ⟨rfl, rfl⟩)
            go_ret2
            exact ⟨HB.out, .inl ⟨rfl, rfl⟩⟩
          · rw [Bool.not_eq_true] at hv
            have hbk : hasB n v q = false := by rw [hasB_nat hqn]; exact hv
            have HQ := Lib.hid (q_put' v q (by omega))
            rw [Int.toNat_natCast, hv, if_pos ⟨by omega, by omega, rfl⟩] at hst
            have HST := Lib.hid hst
            clear hst no hv
            go_wp2_with (go_at_call 33; refine (has_any _ _ _ _ _ HS.out (by omega)).mono ?_; rintro e w' ⟨rfl, rfl⟩)
            go_region
            go_wp2_with fail
            go_roundw
            case rel => exact ⟨k + 1, _, by omega, by go_num, HS.out.put _ _ HQ.out, (HB.out.setCell (Nat.le_refl _) _).drew, by rw [← HO.out, HST.out]; exact Lib.hid rfl⟩
            case measure => simp [intOf] <;> omega
        · have hd1 : decide ((n : Int) ≤ q) = true := decide_eq_true (by omega)
          have hd1n : decide (n ≤ q) = true := decide_eq_true (by omega)
          have hno := no (by omega)
          clear no hst
          subst hno
          go_wp2_with fail
          go_ret2
          exact ⟨HB.out, .inl ⟨rfl, rfl⟩⟩
    · obtain rfl : k = np := by omega
      have hRv : R = some v := by rw [← HO.out, List.drop_of_length_le (by rw [HL.out]; exact Nat.le_refl _)]; rfl
      subst hRv
      clear hb'
      go_wp2_with fail
      go_ret2
      exact ⟨HB.out, .inr ⟨v, _, rfl, rfl, Nat.le_refl _, HS.out⟩⟩
set_option maxRecDepth 100000 in
theorem of_bad (n : Int) (a : Option Addr) (np cp : Nat) (w : World) (h : n < 1 ∨ 64 < n) :
    Calls Tryz.prog 73 #[.int .i64 n, .slice a np cp] w fun e w' => e = .returned (.tuple #[.pointer none, .int .i64 1]) ∧ w = w' := by
  go_enter Tryz.func73, Tryz.ntmps73
  go_wp2_with (go_at_call 30; refine (newset_no _ _ h).mono ?_; rintro e w' ⟨rfl, rfl⟩)
  go_ret2
  exact ⟨rfl, rfl⟩
end Go.Proofs.YtnbjodoajfkekaaGreat

namespace Go.Proofs.YtnbjodoajfkekaaGreat
open Go.RowKit
/-- What the closure sees: its flag, its count, the row that is wanted, where it stops. -/
structure Seen (w : World) (A K W S : Nat) (k stop : Int) (a : Option Addr) (n c : Nat) : Prop where
  ok : w.heap[A]? = some (.cells #[.bool true] 4 (0, 0))
  cnt : w.heap[K]? = some (.cells #[.int .i64 k] 3 (0, 0))
  want : w.heap[W]? = some (.cells #[.slice a n c] 43 (0, 0))
  stp : w.heap[S]? = some (.cells #[.int .i64 stop] 3 (0, 0))
def after (w : World) (A K : Nat) (k : Int) : World := (w.setCell ⟨A, 0, none⟩ (.bool true)).setCell ⟨K, 0, none⟩ (.int .i64 k)
theorem after_other (w : World) (A K : Nat) (k : Int) {q : Nat} (h1 : q ≠ A) (h2 : q ≠ K) : (after w A K k).heap[q]? = w.heap[q]? := by
  unfold after
  rw [heap_setCell_other _ ⟨K, 0, none⟩ q _ h2, heap_setCell_other _ ⟨A, 0, none⟩ q _ h1]
theorem Seen.next {w : World} {A K W S : Nat} {k stop : Int} {a : Option Addr} {n c : Nat} (s : Seen w A K W S k stop a n c) (k' : Int) (hAK : A ≠ K) (h1 : W ≠ A) (h2 : W ≠ K) (h3 : S ≠ A) (h4 : S ≠ K) : Seen (after w A K k') A K W S k' stop a n c := by
  refine ⟨?_, ?_, by rw [after_other _ _ _ _ h1 h2]; exact s.want, by rw [after_other _ _ _ _ h3 h4]; exact s.stp⟩
  · unfold after
    rw [heap_setCell_other _ ⟨K, 0, none⟩ A _ hAK, heap_setCell_same w A 0 _ _ _ s.ok]
    rfl
  · unfold after
    rw [heap_setCell_same (w.setCell ⟨A, 0, none⟩ (.bool true)) K 0 _ _ _ (by rw [heap_setCell_other _ ⟨A, 0, none⟩ K _ hAK.symm]; exact s.cnt)]
    rfl
theorem pids_app (v : BitVec 64) (k : Nat) : ∀ m, ∃ r, pidsK v (k + m) = pidsK v k ++ r
  | 0 => ⟨[], by simp⟩
  | m + 1 => by
    obtain ⟨r, h⟩ := pids_app v k m
    rw [← Nat.add_assoc, pidsK, h]
    split
    · exact ⟨r ++ [((k + m : Nat) : Int)], by rw [List.append_assoc]⟩
    · exact ⟨r, rfl⟩
theorem pids_at {v : BitVec 64} {k n : Nat} (hk : k < n) (hv : v.getLsbD k = true) : (pidsK v k).length < (pidsK v n).length ∧ nth (pidsK v n) (pidsK v k).length = k := by
  obtain ⟨r, h⟩ := pids_app v (k + 1) (n - (k + 1))
  rw [show k + 1 + (n - (k + 1)) = n by omega, pidsK, if_pos hv] at h
  rw [h]
  refine ⟨by simp, ?_⟩
  unfold nth
  simp [List.getD]
theorem rd_after {w : World} {A K : Nat} {k : Int} {a : Option Addr} {n c : Nat} {l : List Int} (r : RdAt .i64 w a n c l) (hna : 0 < n → ∀ x, a = some x → x.block ≠ A ∧ x.block ≠ K) : RdAt .i64 (after w A K k) a n c l :=
  ⟨r.len, r.cap, r.max, fun i hi => by
    obtain ⟨b, o, e, hc⟩ := r.cell i hi
    obtain ⟨h1, h2⟩ := hna (by omega) _ e
    refine ⟨b, o, e, ?_⟩
    rw [← hc]
    exact World.cell?_of_block (w := w) (w' := after w A K k) (a := ⟨b, o + i, none⟩) (after_other w A K k h1 h2), r.wf, r.void⟩
theorem below_after {w0 w : World} {A K base : Nat} {k : Int} (h : Below base w0 w) (hA : base ≤ A) (hK : base ≤ K) : Below base w0 (after w A K k) := (h.setCell hA _).setCell hK _
/-- How often Each calls it. -/
def cntE (stop : Int) (len : Nat) : Nat := if (len : Int) ≤ stop then len else min len (max 1 (stop + 1).toNat)
end Go.Proofs.YtnbjodoajfkekaaGreat

namespace Go.Proofs.YtnbjodoajfkekaaGreat
open Go.RowKit
theorem below_put {w0 w w' : World} {g : Nat} (hb : Below w0.heap.size w0 w) (hg : w0.heap.size ≤ g) (h : w.grownBy w' (some g)) : Below w0.heap.size w0 w' :=
  hb.grown h hb.size (fun k hk => by injection hk with hk; omega)
theorem first_low {N k : Nat} (hN : N ≤ 64) (hk : k ≤ N) : firstF (lowN k) N = k :=
  firstF_eq hk (fun j hj => by rw [lowN_get j (by omega), decide_eq_true hj]) (fun h => by rw [lowN_get k (by omega), decide_eq_false (by omega)])
end Go.Proofs.YtnbjodoajfkekaaGreat

namespace Go.Proofs.YtnbjodoajfkekaaGreat
open Go.RowKit
def tkN (v : BitVec 64) (n : Nat) : Int := if firstF v n < n then (firstF v n : Nat) else 0
def tkE (v : BitVec 64) (n : Nat) : Int := if firstF v n < n then 0 else 5
def tkV (v : BitVec 64) (n : Nat) : BitVec 64 := if firstF v n < n then v ||| qbit (firstF v n) else v
def frE (v : BitVec 64) (n : Nat) (p : Int) : Int := if hasB n v p = true then 0 else 2
def frV (v : BitVec 64) (n : Nat) (p : Int) : BitVec 64 := if hasB n v p = true then v &&& ~~~ qbit p.toNat else v
theorem tkV_low {v : BitVec 64} {n : Nat} (h : lowB v n) : lowB (tkV v n) n := by
  unfold tkV
  split
  · rename_i hf; exact lowB_put h hf
  · exact h
theorem frV_low {v : BitVec 64} {n : Nat} {p : Int} (h : lowB v n) : lowB (frV v n p) n := by
  unfold frV
  split
  · exact lowB_drop h
  · exact h
theorem ofL_low {n : Nat} : ∀ {l : List Int} {v v' : BitVec 64}, lowB v n → ofL n v l = some v' → lowB v' n
  | [], v, v', h, e => by
    rw [ofL] at e
    injection e with e
    rw [← e]; exact h
  | p :: r, v, v', h, e => by
    rw [ofL] at e
    split at e
    · rename_i hc
      exact ofL_low (lowB_put h (by omega)) e
    · cases e
set_option maxRecDepth 100000 in
theorem take_all (g n : Nat) (v : BitVec 64) (w : World) (h : SetAt w g n v) (hn : n ≤ 64) :
    Calls Tryz.prog 41 #[.pointer (some ⟨g, 0, none⟩)] w fun e w' => e = .returned (.tuple #[.int .i64 (tkN v n), .int .i64 (tkE v n)]) ∧ SetAt w' g n (tkV v n) ∧ w.grownBy w' (some g) := by
  have hle := firstF_le v n
  unfold tkN tkE tkV
  by_cases hf : firstF v n < n
  · rw [if_pos hf, if_pos hf, if_pos hf]
    exact take_yes g n _ v w h hn rfl hf
  · rw [if_neg hf, if_neg hf, if_neg hf]
    refine (take_no g n v w h hn (by omega)).mono ?_
    rintro e w' ⟨rfl, rfl⟩
    exact ⟨rfl, h, World.grownBy.refl _ _⟩
set_option maxRecDepth 100000 in
theorem rtake_all (g h n : Nat) (v : BitVec 64) (w : World) (r : RSetAt w g h n v) (hn : n ≤ 64) :
    Calls Tryz.prog 51 #[.pointer (some ⟨g, 0, none⟩)] w fun e w' => e = .returned (.tuple #[.int .i64 (tkN v n), .int .i64 (tkE v n)]) ∧ RSetAt w' g h n (tkV v n) ∧ w.grownBy w' (some h) := by
  have hle := firstF_le v n
  unfold tkN tkE tkV
  by_cases hf : firstF v n < n
  · rw [if_pos hf, if_pos hf, if_pos hf]
    exact rtake_yes g h n _ v w r hn rfl hf
  · rw [if_neg hf, if_neg hf, if_neg hf]
    refine (rtake_no g h n v w r hn (by omega)).mono ?_
    rintro e w' ⟨rfl, rfl⟩
    exact ⟨rfl, r, World.grownBy.refl _ _⟩
theorem hasB_pos {n v} {p : Int} (h : hasB n v p = true) : 0 ≤ p := by
  unfold hasB at h
  simp only [Bool.and_eq_true, decide_eq_true_eq] at h
  exact h.1
set_option maxRecDepth 100000 in
theorem free_all (g n : Nat) (v : BitVec 64) (p : Int) (w : World) (h : SetAt w g n v) (hn : n ≤ 64) :
    Calls Tryz.prog 48 #[.pointer (some ⟨g, 0, none⟩), .int .i64 p] w fun e w' => e = .returned (.int .i64 (frE v n p)) ∧ SetAt w' g n (frV v n p) ∧ w.grownBy w' (some g) := by
  unfold frE frV
  by_cases hb : hasB n v p = true
  · rw [if_pos hb, if_pos hb]
    obtain ⟨q, rfl⟩ := Int.eq_ofNat_of_zero_le (hasB_pos hb)
    exact free_yes g n v q w h (by omega) hb
  · rw [if_neg hb, if_neg hb]
    refine (free_no g n v p w h (by omega) (by simpa using hb)).mono ?_
    rintro e w' ⟨rfl, rfl⟩
    exact ⟨rfl, h, World.grownBy.refl _ _⟩
set_option maxRecDepth 100000 in
theorem rfree_all (g h n : Nat) (v : BitVec 64) (p : Int) (w : World) (r : RSetAt w g h n v) (hn : n ≤ 64) :
    Calls Tryz.prog 55 #[.pointer (some ⟨g, 0, none⟩), .int .i64 p] w fun e w' => e = .returned (.int .i64 (frE v n p)) ∧ RSetAt w' g h n (frV v n p) ∧ w.grownBy w' (some h) := by
  unfold frE frV
  by_cases hb : hasB n v p = true
  · rw [if_pos hb, if_pos hb]
    obtain ⟨q, rfl⟩ := Int.eq_ofNat_of_zero_le (hasB_pos hb)
    exact rfree_yes g h n v q w r hn hb
  · rw [if_neg hb, if_neg hb]
    refine (rfree_no g h n v p w r (by simpa using hb)).mono ?_
    rintro e w' ⟨rfl, rfl⟩
    exact ⟨rfl, r, World.grownBy.refl _ _⟩
/-- Both sets, as a play goes on. -/
structure PP (stop : Int) (w0 w : World) (g g2 h N : Nat) (v : BitVec 64) : Prop where
  s : SetAt w g N v
  r : RSetAt w g2 h N v
  low : lowB v N
  st : w.heap[w0.heap.size]? = some (.cells #[.int .i64 stop] 3 (0, 0))
  bel : Below w0.heap.size w0 w
  lo : w0.heap.size < g ∧ w0.heap.size < g2 ∧ w0.heap.size < h ∧ g ≠ g2 ∧ g ≠ h
/-- All of it but the sets. -/
def PB (stop : Int) (w0 w : World) : Prop := w.heap[w0.heap.size]? = some (.cells #[.int .i64 stop] 3 (0, 0)) ∧ Below w0.heap.size w0 w
theorem PB.grown {stop : Int} {w0 w w' : World} {k : Nat} (p : PB stop w0 w) (hg : w.grownBy w' (some k)) (hk : w0.heap.size < k) : PB stop w0 w' :=
  ⟨by rw [hg.block _ (Array.getElem?_eq_some_iff.1 p.1).1 (fun e => by injection e with e; omega)]; exact p.1, below_put p.2 (by omega) hg⟩
theorem PB.below {stop : Int} {w0 w w' : World} (p : PB stop w0 w) (hb : Below w.heap.size w w') : PB stop w0 w' :=
  ⟨by rw [hb.block _ (Array.getElem?_eq_some_iff.1 p.1).1]; exact p.1, p.2.trans (hb.mono p.2.size)⟩
theorem PP.pb {stop : Int} {w0 w : World} {g g2 h N : Nat} {v : BitVec 64} (p : PP stop w0 w g g2 h N v) : PB stop w0 w := ⟨p.st, p.bel⟩
theorem PP.below {stop : Int} {w0 w w' : World} {g g2 h N : Nat} {v : BitVec 64} (p : PP stop w0 w g g2 h N v) (hb : Below w.heap.size w w') : PP stop w0 w' g g2 h N v :=
  ⟨p.s.below hb, p.r.below hb, p.low, (p.pb.below hb).1, (p.pb.below hb).2, p.lo⟩
theorem PP.turn {stop : Int} {w0 w w1 w2 : World} {g g2 h N : Nat} {v v' : BitVec 64} (p : PP stop w0 w g g2 h N v) (hs : SetAt w1 g N v') (hg : w.grownBy w1 (some g)) (hr : RSetAt w2 g2 h N v') (hh : w1.grownBy w2 (some h)) (hl : lowB v' N) : PP stop w0 w2 g g2 h N v' :=
  ⟨hs.grown hh p.lo.2.2.2.2, hr, hl, ((p.pb.grown hg p.lo.1).grown hh p.lo.2.2.1).1, ((p.pb.grown hg p.lo.1).grown hh p.lo.2.2.1).2, p.lo⟩
/-- How a play begins: none of both sets, or both. -/
def PPStart (stop : Int) (w0 : World) (N : Nat) (s e r f : Value) (w : World) : Prop :=
  (s = .pointer none ∧ e = .int .i64 1 ∧ r = .pointer none ∧ f = .int .i64 1 ∧ Below w0.heap.size w0 w) ∨
  ∃ v g g2 h, s = .pointer (some ⟨g, 0, none⟩) ∧ e = .int .i64 0 ∧ r = .pointer (some ⟨g2, 0, none⟩) ∧ f = .int .i64 0 ∧ PP stop w0 w g g2 h N v
/-- A value that reads as a row of numbers. -/
def isInts (l : List Int) (v : Value) (w : World) : Prop := ∃ a c, v = .slice a l.length c ∧ RdAt .i64 w a l.length c l
theorem isInts_stays (l : List Int) : Stays Kept (isInts l) := by
  rintro v w w' ⟨a, c, rfl, h⟩ hb
  exact ⟨a, c, rfl, h.below hb⟩
theorem Owns.isInts {e : TypeId} {w : World} {base : Nat} {v : Value} {l : List Int} (h : Owns .i64 e w base v l) : isInts l v w := by
  obtain ⟨a, c, rfl⟩ := h.shape
  exact ⟨a, c, rfl, h.rd⟩
theorem rd_cell {k : IntKind} {w : World} {b ad n c : Nat} {l : List Int} (h : RdAt k w (some ⟨b, ad, none⟩) n c l) {i : Nat} (hi : i < n) : w.cell? ⟨b, ad + i, none⟩ = some (.int k (nth l i)) := by
  obtain ⟨b', o', e, hc⟩ := h.cell i hi
  injection e with e
  injection e with e1 e2
  subst e1 e2
  exact hc
end Go.Proofs.YtnbjodoajfkekaaGreat
