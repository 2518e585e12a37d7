/- The contracts of procs: New, Has, Bits, Take, Free, List, Len. -/
import Derived.Test.YtlcmnaponpjhnaaProg
import Derived.Test.YtlcmnaponpjhnaaSetLaw
import Derived.Test.YtlcmnaponpjhnaaApp
import Derived.RegionTactic
import Derived.ChangeAlike
import Derived.ProofKit
namespace Go.Proofs.Ytlcmnaponpjhnaa
open Go.RowKit
/-- A set of numbers lies in block g. -/
def SetAt (w : World) (g : Nat) (n : Int) (v : BitVec 64) : Prop := w.heap[g]? = some (.cells #[.int .i64 n, .int .u64 (qnum v)] 50 (0, 0))
theorem SetAt.lt {w : World} {g : Nat} {n : Int} {v : BitVec 64} (h : SetAt w g n v) : g < w.heap.size := (Array.getElem?_eq_some_iff.1 h).1
theorem SetAt.cells {w : World} {g : Nat} {n : Int} {v : BitVec 64} (h : SetAt w g n v) : w.cell? ⟨g, 0, none⟩ = some (.int .i64 n) ∧ w.cell? ⟨g, 1, none⟩ = some (.int .u64 (qnum v)) ∧ w.frozen? ⟨g, 1, none⟩ = false := by
  unfold SetAt at h
  exact ⟨by simp [World.cell?, h], by simp [World.cell?, h], frozen_of_row w g 1 _ _ h⟩
theorem SetAt.below {w w' : World} {g : Nat} {n : Int} {v : BitVec 64} (h : SetAt w g n v) (hb : Below w.heap.size w w') : SetAt w' g n v := by
  unfold SetAt at *
  rw [hb.block g (Array.getElem?_eq_some_iff.1 h).1]; exact h
/-- A set's bits are put anew. -/
theorem SetAt.put {w : World} {g : Nat} {n : Int} {v : BitVec 64} (h : SetAt w g n v) (x : Int) (v' : BitVec 64) (e : x = qnum v') : SetAt (w.setCell ⟨g, 1, none⟩ (.int .u64 x)).drew g n v' := by
  subst e
  exact heap_setCell_same _ _ _ _ _ _ h
theorem put_grown (w : World) (g : Nat) (x : Value) : w.grownBy (w.setCell ⟨g, 1, none⟩ x).drew (some g) :=
  ⟨rfl, rfl, rfl, by simp [World.drew], fun k _ hk => heap_setCell_other w ⟨g, 1, none⟩ k x (fun e => hk (by simp [e]))⟩
theorem newset_no (n : Int) (w : World) (h : n < 1 ∨ 64 < n) : Calls Try.prog 6 #[.int .i64 n] w fun e w' => e = .returned (.tuple #[.pointer none, .int .i64 1]) ∧ w = w' := by
  rcases h with h | h
  · go_enter Try.func6, Try.ntmps6
    go_wp2
    go_ret2
    exact ⟨rfl, rfl⟩
  · have h' : ¬ n < 1 := by omega
    go_enter Try.func6, Try.ntmps6
    go_wp2
    go_ret2
    exact ⟨rfl, rfl⟩
theorem newset_yes (n : Int) (w : World) (h1 : 1 ≤ n) (h2 : n ≤ 64) : Calls Try.prog 6 #[.int .i64 n] w fun e w' => e = .returned (.tuple #[.pointer (some ⟨w.heap.size, 0, none⟩), .int .i64 0]) ∧ SetAt w' w.heap.size n 0#64 ∧ Below w.heap.size w w' := by
  go_enter Try.func6, Try.ntmps6
  go_wp2
  go_ret2
  exact ⟨rfl, heap_alloc_new _ _, (Below.refl _ _).alloc (Nat.le_refl _) _⟩
theorem bits_any (g : Nat) (n : Int) (v : BitVec 64) (w : World) (h : SetAt w g n v) : Calls Try.prog 9 #[.pointer (some ⟨g, 0, none⟩)] w fun e w' => e = .returned (.int .u64 (qnum v)) ∧ w = w' := by
  obtain ⟨c0, c1, _⟩ := h.cells
  clear h
  go_enter Try.func9, Try.ntmps9
  go_wp2
  go_ret
  exact ⟨rfl, rfl⟩
theorem has_any (g : Nat) (n : Int) (v : BitVec 64) (p : Int) (w : World) (h : SetAt w g n v) (hn : n ≤ 64) : Calls Try.prog 11 #[.pointer (some ⟨g, 0, none⟩), .int .i64 p] w fun e w' => e = .returned (.bool (hasB n v p)) ∧ w = w' := by
  obtain ⟨c0, c1, _⟩ := h.cells
  clear h
  by_cases h1 : 0 ≤ p
  · obtain ⟨q, rfl⟩ := Int.eq_ofNat_of_zero_le h1
    by_cases h2 : (q : Int) < n
    · have ht := q_test v q
      by_cases hb : v.getLsbD q = true
      · have he : hasB n v q = true := by unfold hasB; rw [decide_eq_true h1, decide_eq_true h2, Int.toNat_natCast, hb]; rfl
        rw [he, if_pos hb] at *
        clear hb he
        go_enter Try.func11, Try.ntmps11
        go_wp2
        go_ret
        exact ⟨rfl, rfl⟩
      · have he : hasB n v q = false := by unfold hasB; rw [Int.toNat_natCast]; rw [Bool.not_eq_true] at hb; rw [hb]; simp
        rw [he]
        rw [if_neg hb] at ht
        clear hb he
        go_enter Try.func11, Try.ntmps11
        go_wp2
        go_ret
        exact ⟨rfl, rfl⟩
    · have he : hasB n v q = false := by unfold hasB; rw [decide_eq_false h2]; simp
      rw [he]
      clear he
      go_enter Try.func11, Try.ntmps11
      go_wp2
      go_ret
      exact ⟨rfl, rfl⟩
  · have he : hasB n v p = false := by unfold hasB; rw [decide_eq_false h1]; rfl
    rw [he]
    clear he
    go_enter Try.func11, Try.ntmps11
    go_wp2
    go_ret
    exact ⟨rfl, rfl⟩
theorem hasB_nat {n k : Nat} {v : BitVec 64} (h : k < n) : hasB n v k = v.getLsbD k := by
  unfold hasB
  rw [decide_eq_true (by omega : (0 : Int) ≤ k), decide_eq_true (by omega : (k : Int) < n), Int.toNat_natCast]; rfl
theorem take_no (g n : Nat) (v : BitVec 64) (w : World) (h : SetAt w g n v) (hn : n ≤ 64) (hf : firstF v n = n) :
    Calls Try.prog 7 #[.pointer (some ⟨g, 0, none⟩)] w fun e w' => e = .returned (.tuple #[.int .i64 0, .int .i64 5]) ∧ w = w' := by
  obtain ⟨c0, c1, _⟩ := h.cells
  have HS := Lib.hid h
  have HF := Lib.hid hf
  clear h hf
  go_enter Try.func7, Try.ntmps7
  go_wp2
  go_loop [9] (fun i => ∃ k : Nat, k ≤ n ∧ i = .int .i64 k) (fun i => n - (intOf i).toNat)
  case atStart => exact ⟨0, by omega, rfl⟩
  case round =>
    obtain ⟨k, hk, rfl⟩ := hrel
    by_cases hp : k < n
    · have hb : hasB n v k = true := by rw [hasB_nat hp]; exact firstF_below v n k (by rw [HF.out]; exact hp)
      go_wp2_with (go_at_call 11; refine (has_any _ _ _ _ _ HS.out (by omega)).mono ?_; rintro e w' ⟨rfl, rfl⟩)
      go_round
      case rel => exact ⟨k + 1, by omega, by go_num⟩
      case measure => simp [intOf] <;> omega
    · go_wp2
      go_ret2
      exact ⟨rfl, rfl⟩
set_option maxRecDepth 100000 in
theorem take_yes (g n k0 : Nat) (v : BitVec 64) (w : World) (h : SetAt w g n v) (hn : n ≤ 64) (hf : firstF v n = k0) (hk0 : k0 < n) :
    Calls Try.prog 7 #[.pointer (some ⟨g, 0, none⟩)] w fun e w' => e = .returned (.tuple #[.int .i64 k0, .int .i64 0]) ∧ SetAt w' g n (v ||| qbit k0) ∧ w.grownBy w' (some g) := by
  obtain ⟨c0, c1, cf⟩ := h.cells
  have HS := Lib.hid h
  have HF := Lib.hid hf
  clear h hf
  go_enter Try.func7, Try.ntmps7
  go_wp2
  go_loop [9] (fun i => ∃ k : Nat, k ≤ k0 ∧ i = .int .i64 k) (fun i => n - (intOf i).toNat)
  case atStart => exact ⟨0, by omega, rfl⟩
  case round =>
    obtain ⟨k, hk, rfl⟩ := hrel
    by_cases hp : k < k0
    · have hb : hasB n v k = true := by rw [hasB_nat (by omega)]; exact firstF_below v n k (by rw [HF.out]; exact hp)
      go_wp2_with (go_at_call 11; refine (has_any _ _ _ _ _ HS.out (by omega)).mono ?_; rintro e w' ⟨rfl, rfl⟩)
      go_round
      case rel => exact ⟨k + 1, by omega, by go_num⟩
      case measure => simp [intOf] <;> omega
    · have HE : Hid (k = k0) := by show _ = _; omega
      have hkn : k < n := by omega
      have hb : hasB n v k = false := by rw [hasB_nat hkn]; have := firstF_at v n (by rw [HF.out]; exact hk0); rw [HF.out] at this; rw [HE.out]; exact this
      have HQ := Lib.hid (q_put' v k (by omega))
      go_wp2_with (go_at_call 11; refine (has_any _ _ _ _ _ HS.out (by omega)).mono ?_; rintro e w' ⟨rfl, rfl⟩)
      go_region
      go_wp2
      go_ret2
      refine ⟨by rw [← HE.out]; rfl, ?_, put_grown _ _ _⟩
      rw [← HE.out]
      exact HS.out.put _ _ HQ.out
theorem free_no (g : Nat) (n : Int) (v : BitVec 64) (p : Int) (w : World) (h : SetAt w g n v) (hn : n ≤ 64) (hb : hasB n v p = false) :
    Calls Try.prog 8 #[.pointer (some ⟨g, 0, none⟩), .int .i64 p] w fun e w' => e = .returned (.int .i64 2) ∧ w = w' := by
  have HS := Lib.hid h
  clear h
  go_enter Try.func8, Try.ntmps8
  go_wp2_with (go_at_call 11; refine (has_any _ _ _ _ _ HS.out hn).mono ?_; rintro e w' ⟨rfl, rfl⟩)
  go_ret
  exact ⟨rfl, rfl⟩
set_option maxRecDepth 100000 in
theorem free_yes (g : Nat) (n : Int) (v : BitVec 64) (p : Nat) (w : World) (h : SetAt w g n v) (hn : n ≤ 64) (hb : hasB n v p = true) :
    Calls Try.prog 8 #[.pointer (some ⟨g, 0, none⟩), .int .i64 p] w fun e w' => e = .returned (.int .i64 0) ∧ SetAt w' g n (v &&& ~~~ qbit p) ∧ w.grownBy w' (some g) := by
  obtain ⟨c0, c1, cf⟩ := h.cells
  have hp : (p : Int) < n := by
    unfold hasB at hb
    simp only [Bool.and_eq_true, decide_eq_true_eq] at hb
    exact hb.2.1
  have HS := Lib.hid h
  have HQ := Lib.hid (q_drop' v p (by omega))
  clear h
  go_enter Try.func8, Try.ntmps8
  go_wp2_with (go_at_call 11; refine (has_any _ _ _ _ _ HS.out hn).mono ?_; rintro e w' ⟨rfl, rfl⟩)
  go_region
  go_wp2
  go_ret
  exact ⟨rfl, HS.out.put _ _ HQ.out, put_grown _ _ _⟩
theorem i64I : elemInfo Try.prog 3 .i64 8 := by unfold elemInfo; kernel_rfl
theorem i64T : Try.prog.underlying 22 = some (.slice 3) := Try.underlying22
/-- A variable in block h that holds a row of the call's own. -/
structure OutAt (w : World) (h : Nat) (v : Value) (l : List Int) : Prop where
  row : w.heap[h]? = some (.cells #[v] 22 (0, 0))
  own : Owns .i64 3 w (h + 1) v l
set_option maxRecDepth 100000 in
theorem list1_any (h : Nat) (v : Value) (l : List Int) (p : Int) (w : World) (ho : OutAt w h v l) (hl : l.length ≤ 1000000) (hp : (Lit.int .i64 p).wf = true) :
    Calls Try.prog 24 #[.int .i64 p, .pointer (some ⟨h, 0, none⟩)] w fun e w' => e = .returned (.bool true) ∧ (∃ v', OutAt w' h v' (l ++ [p])) ∧ Below h w w' := by
  have hr := ho.row
  have hlt : h < w.heap.size := (Array.getElem?_eq_some_iff.1 hr).1
  obtain ⟨a, c, hv⟩ := ho.own.shape
  have how := ho.own
  subst hv
  have c0 : w.cell? ⟨h, 0, none⟩ = some (.slice a l.length c) := by rw [cell_of_row w _ _ _ _ _ hr]; rfl
  have cf : w.frozen? ⟨h, 0, none⟩ = false := frozen_of_row w _ _ _ _ hr
  have HR := Lib.hid hr
  clear hr ho
  go_enter Try.func24, Try.ntmps24
  have hne : ∀ g, room (.slice a l.length c) = some g → some g ≠ some h := fun g hg e => by
    injection e with e
    have := (how.at_base g hg).1
    omega
  have HN := Lib.hid hne
  clear hne
  go_wp2_with (at_builtin; refine app_one i64T i64I (by decide) rfl (.tmp 4) (.tmp 6) rfl _ (h + 1) _ l rfl how _ rfl hp (by omega) (by omega) ?_; intro v2 w2 ho2 hg2; obtain ⟨a2, k2, rfl⟩ := ho2.shapeN (l.length + 1) (by simp); have hr2 := (hg2.1.block h hlt (fun e => HN.out h e.symm rfl)).trans HR.out; have c2 : w2.cell? ⟨h, 0, none⟩ = some (.slice a l.length c) := (by (rw [cell_of_row w2 _ _ _ _ _ hr2]; rfl)); have cf2 : w2.frozen? ⟨h, 0, none⟩ = false := frozen_of_row w2 _ _ _ _ hr2; have HR2 := Lib.hid hr2; clear hr2)
  go_ret
  have hB : Below h w w2 := hg2.below (by omega) (fun g hg => by have := (how.at_base g hg).1; omega)
  refine ⟨rfl, ⟨_, heap_setCell_same _ _ _ _ _ _ HR2.out, ho2.grown (row := some h) ⟨rfl, rfl, rfl, by simp, fun k _ hk => heap_setCell_other w2 ⟨h, 0, none⟩ k _ (fun e => hk (by simp [e]))⟩ (fun g hg e => ?_)⟩, hB.setCell (Nat.le_refl _) _⟩
  injection e with e
  have := (ho2.at_base g hg).1
  omega
theorem OutAt.below {w w' : World} {h : Nat} {v : Value} {l : List Int} (o : OutAt w h v l) (hb : Below w.heap.size w w') : OutAt w' h v l :=
  ⟨by have := o.row; rw [hb.block h (Array.getElem?_eq_some_iff.1 this).1]; exact this, o.own.below hb⟩
set_option maxRecDepth 100000 in
theorem each_list (g n h : Nat) (v : BitVec 64) (w : World) (hs : SetAt w g n v) (hn : n ≤ 64) (hgh : g < h) (ho : ∃ x, OutAt w h x []) :
    Calls Try.prog 22 #[.pointer (some ⟨g, 0, none⟩), .func (.func 24) #[] #[.pointer (some ⟨h, 0, none⟩)]] w fun e w' => e = .returned (.tuple #[]) ∧ (∃ x, OutAt w' h x (pidsK v n)) ∧ Below h w w' := by
  obtain ⟨c0, c1, cf⟩ := hs.cells
  have HS := Lib.hid hs
  have HO := Lib.hid ho
  clear hs ho
  go_enter Try.func22, Try.ntmps22
  go_wp2_with fail
  go_loopw [9] (fun i wr => ∃ k : Nat, k ≤ n ∧ i = .int .i64 k ∧ SetAt wr g n v ∧ (∃ x, OutAt wr h x (pidsK v k)) ∧ Below h w wr) (fun i _ => n - (intOf i).toNat)
  case atStart => exact ⟨0, by omega, rfl, HS.out, HO.out, Below.refl _ _⟩
  case round =>
    obtain ⟨k, hk, rfl, hs, ho, hb⟩ := hrel
    clear c0 c1 cf
    obtain ⟨c0, c1, cf⟩ := hs.cells
    have HS1 := Lib.hid hs
    have hgl := hs.lt
    clear hs
    obtain ⟨x, ho⟩ := ho
    have hsz := pidsK_le v k
    have HO1 := Lib.hid ho
    clear ho
    by_cases hp : k < n
    · by_cases hb1 : v.getLsbD k = true
      · have hbk : hasB n v k = true := by rw [hasB_nat hp]; exact hb1
        have HX : Hid (pidsK v (k + 1) = pidsK v k ++ [(k : Int)]) := by show _ = _; rw [pidsK, if_pos hb1]
        clear hb1
        go_wp2_with (first | (go_at_call 11; refine (has_any _ _ _ _ _ HS1.out (by omega)).mono ?_; rintro e w' ⟨rfl, rfl⟩) | (go_at_call 24; refine (list1_any _ _ _ _ _ HO1.out (by omega) (WalkArith.wf_i64 (by omega))).mono ?_; rintro e w2 ⟨rfl, ho2, hb2⟩))
        go_roundw
        case rel => exact ⟨k + 1, by omega, by go_num, by unfold SetAt; rw [hb2.block g hgh]; exact HS1.out, by rw [HX.out]; exact ho2, hb.trans hb2⟩
        case measure => simp [intOf] <;> omega
      · have hbk : hasB n v k = false := by rw [hasB_nat hp]; simpa using hb1
        have HX : Hid (pidsK v (k + 1) = pidsK v k) := by show _ = _; rw [pidsK, if_neg hb1]
        clear hb1
        go_wp2_with (first | (go_at_call 11; refine (has_any _ _ _ _ _ HS1.out (by omega)).mono ?_; rintro e w' ⟨rfl, rfl⟩))
        go_roundw
        case rel => exact ⟨k + 1, by omega, by go_num, HS1.out, by rw [HX.out]; exact ⟨_, HO1.out⟩, hb⟩
        case measure => simp [intOf] <;> omega
    · obtain rfl : k = n := by omega
      go_wp2_with fail
      go_end0
      exact ⟨rfl, ⟨_, HO1.out⟩, hb⟩
/-- Ends with a row of numbers of its own. -/
def GivesInts (l : List Int) (w : World) (e : Ending) (w' : World) : Prop := ∃ v, e = .returned v ∧ Owns .i64 3 w' w.heap.size v l ∧ Below w.heap.size w w'
set_option maxRecDepth 100000 in
theorem list_any (g n : Nat) (v : BitVec 64) (w : World) (hs : SetAt w g n v) (hn : n ≤ 64) :
    Calls Try.prog 18 #[.pointer (some ⟨g, 0, none⟩)] w (GivesInts (pidsK v n) w) := by
  have hlt := hs.lt
  have hs1 : SetAt (w.alloc (.cells #[.slice none 0 0] 22)) g n v := hs.below ((Below.refl _ _).alloc (Nat.le_refl _) _)
  have ho : OutAt (w.alloc (.cells #[.slice none 0 0] 22)) w.heap.size (.slice none 0 0) [] := ⟨heap_alloc_new _ _, Owns.nil _ _ _ _⟩
  clear hs
  go_enter Try.func18, Try.ntmps18
  go_wp2_with fail
  refine (each_list _ _ _ _ _ hs1 hn hlt ⟨_, ho⟩).mono ?_
  rintro e w2 ⟨rfl, ⟨x, ho2⟩, hb⟩
  have hr2 := ho2.row
  have how := ho2.own
  obtain ⟨a, c, hx⟩ := how.shape
  subst hx
  have c2 : w2.cell? ⟨w.heap.size, 0, none⟩ = some (.slice a (pidsK v n).length c) := by rw [cell_of_row w2 _ _ _ _ _ hr2]; rfl
  clear hr2 ho2 ho
  go_wp2_with fail
  go_ret
  exact ⟨_, rfl, how.mono (by omega), ((Below.refl w.heap.size w).alloc (Nat.le_refl _) _).trans hb⟩
theorem len_any (g n : Nat) (v : BitVec 64) (w : World) (hs : SetAt w g n v) (hn : n ≤ 64) :
    Calls Try.prog 10 #[.pointer (some ⟨g, 0, none⟩)] w fun e w' => e = .returned (.int .i64 ((pidsK v n).length : Nat)) ∧ Below w.heap.size w w' := by
  go_enter Try.func10, Try.ntmps10
  go_wp2_with fail
  refine (list_any _ _ _ _ hs hn).mono ?_
  rintro e w2 ⟨v2, rfl, ho2, hb⟩
  obtain ⟨a, c, rfl⟩ := ho2.shape
  clear ho2
  go_wp2_with fail
  go_ret
  exact ⟨rfl, hb⟩
end Go.Proofs.Ytlcmnaponpjhnaa
