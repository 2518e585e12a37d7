/- What ProcsPlays hands to Each, Each itself, and rows of numbers compared. -/
import Derived.Test.YtlcmnaponpjhnaaProcsOf
namespace Go.Proofs.Ytlcmnaponpjhnaa
open Go.RowKit
set_option linter.unusedSimpArgs false in
set_option linter.unusedVariables false in
set_option maxRecDepth 100000 in
set_option maxHeartbeats 4000000 in
theorem ints_same (a : Option Addr) (n c : Nat) (a' : Option Addr) (n' c' : Nat) (l : List Int) (w : World) (h : RdAt .i64 w a n c l) (h' : RdAt .i64 w a' n' c' l) :
    Calls Try.prog 17 #[.slice a n c, .slice a' n' c'] w fun e w' => e = .returned (.bool true) ∧ Below w.heap.size w w' := by
  obtain rfl : n = n' := by have h1 := h.len; have h2 := h'.len; omega
  have hm := h.max
  have hcp := h.cap
  unfold maxLen at hm
  have H := Lib.hid h
  have H' := Lib.hid h'
  clear h h'
  go_enter Try.func17, Try.ntmps17
  go_wp2_with fail
  go_loopw [5] (fun i wr => ∃ k : Nat, k ≤ n ∧ i = .int .i64 k ∧ Below w.heap.size w wr) (fun i _ => n - (intOf i).toNat)
  case atStart => exact ⟨0, by omega, rfl, Below.refl _ _⟩
  case round =>
    obtain ⟨k, hk, rfl, hb⟩ := hrel
    by_cases hp : k < n
    · obtain ⟨b, ad, rfl, hcell⟩ := (H.out.below hb).cell k hp
      obtain ⟨b', ad', rfl, hcell'⟩ := (H'.out.below hb).cell k hp
      have HB := Lib.hid hb
      clear hb
      go_wp2_with fail
      go_quiet (fail)
      go_wp2_with fail
      go_roundw
      case rel => exact ⟨k + 1, by omega, by go_num, belowN HB.out _⟩
      case measure => simp [intOf] <;> omega
    · have HB := Lib.hid hb
      clear hb
      go_wp2_with fail
      go_ret
      exact ⟨rfl, HB.out⟩
/-- What the closure sees: its flag, its count, the row that is wanted, where it stops. -/
structure Seen (w : World) (A K W S : Nat) (k stop : Int) (a : Option Addr) (n c : Nat) : Prop where
  ok : w.heap[A]? = some (.cells #[.bool true] 4 (0, 0))
  cnt : w.heap[K]? = some (.cells #[.int .i64 k] 3 (0, 0))
  want : w.heap[W]? = some (.cells #[.slice a n c] 22 (0, 0))
  stp : w.heap[S]? = some (.cells #[.int .i64 stop] 3 (0, 0))
def after (w : World) (A K : Nat) (k : Int) : World := (w.setCell ⟨A, 0, none⟩ (.bool true)).setCell ⟨K, 0, none⟩ (.int .i64 k)
theorem after_other (w : World) (A K : Nat) (k : Int) {q : Nat} (h1 : q ≠ A) (h2 : q ≠ K) : (after w A K k).heap[q]? = w.heap[q]? := by
  unfold after
  rw [heap_setCell_other _ ⟨K, 0, none⟩ q _ h2, heap_setCell_other _ ⟨A, 0, none⟩ q _ h1]
theorem Seen.next {w : World} {A K W S : Nat} {k stop : Int} {a : Option Addr} {n c : Nat} (s : Seen w A K W S k stop a n c) (k' : Int) (hAK : A ≠ K) (h1 : W ≠ A) (h2 : W ≠ K) (h3 : S ≠ A) (h4 : S ≠ K) : Seen (after w A K k') A K W S k' stop a n c := by
  refine ⟨?_, ?_, by rw [after_other _ _ _ _ h1 h2]; exact s.want, by rw [after_other _ _ _ _ h3 h4]; exact s.stp⟩
  · unfold after
    rw [heap_setCell_other _ ⟨K, 0, none⟩ A _ hAK, heap_setCell_same w A 0 _ _ _ s.ok]
    rfl
  · unfold after
    rw [heap_setCell_same (w.setCell ⟨A, 0, none⟩ (.bool true)) K 0 _ _ _ (by rw [heap_setCell_other _ ⟨A, 0, none⟩ K _ hAK.symm]; exact s.cnt)]
    rfl
set_option linter.unusedSimpArgs false in
set_option linter.unusedVariables false in
set_option maxRecDepth 100000 in
set_option maxHeartbeats 4000000 in
theorem play1_any (A K W S : Nat) (k stop p : Int) (a : Option Addr) (n c : Nat) (l : List Int) (w : World) (s : Seen w A K W S k stop a n c) (r : RdAt .i64 w a n c l) (j : Nat) (hj : k = j) (hjn : j < n) (hp : nth l j = p) (hAK : A ≠ K) (hWA : W ≠ A) (hWK : W ≠ K) (hSA : S ≠ A) (hSK : S ≠ K) (hna : ∀ x, a = some x → x.block ≠ A) (hn : n ≤ 64) :
    Calls Try.prog 23 #[.int .i64 p, .pointer (some ⟨A, 0, none⟩), .pointer (some ⟨K, 0, none⟩), .pointer (some ⟨W, 0, none⟩), .pointer (some ⟨S, 0, none⟩)] w fun e w' => e = .returned (.bool (decide (((j + 1 : Nat) : Int) ≤ stop))) ∧ w' = after w A K ((j + 1 : Nat) : Int) := by
  subst hj
  obtain ⟨b, ad, rfl, hcell⟩ := r.cell j hjn
  rw [hp] at hcell
  have hbA : b ≠ A := hna _ rfl
  have c1 : w.cell? ⟨A, 0, none⟩ = some (.bool true) := by rw [cell_of_row w _ _ _ _ _ s.ok]; rfl
  have f1 : w.frozen? ⟨A, 0, none⟩ = false := frozen_of_row w _ _ _ _ s.ok
  have c2 : w.cell? ⟨K, 0, none⟩ = some (.int .i64 j) := by rw [cell_of_row w _ _ _ _ _ s.cnt]; rfl
  have f2 : w.frozen? ⟨K, 0, none⟩ = false := frozen_of_row w _ _ _ _ s.cnt
  have c3 : w.cell? ⟨W, 0, none⟩ = some (.slice (some ⟨b, ad, none⟩) n c) := by rw [cell_of_row w _ _ _ _ _ s.want]; rfl
  have c4 : w.cell? ⟨S, 0, none⟩ = some (.int .i64 stop) := by rw [cell_of_row w _ _ _ _ _ s.stp]; rfl
  have hd : decide (j < n) = true := decide_eq_true hjn
  have AF : Hid (after w A K ((j + 1 : Nat) : Int) = (w.setCell ⟨A, 0, none⟩ (.bool true)).setCell ⟨K, 0, none⟩ (.int .i64 ((j : Int) + 1))) := by show _ = _; unfold after; rfl
  clear r s hp hna
  go_enter Try.func23, Try.ntmps23
  go_wp2_with fail
  go_ret
  exact ⟨rfl, AF.out.symm⟩

theorem pids_app (v : BitVec 64) (k : Nat) : ∀ m, ∃ r, pidsK v (k + m) = pidsK v k ++ r
  | 0 => ⟨[], by simp⟩
  | m + 1 => by
    obtain ⟨r, h⟩ := pids_app v k m
    rw [← Nat.add_assoc, pidsK, h]
    split
    · exact ⟨r ++ [((k + m : Nat) : Int)], by rw [List.append_assoc]⟩
    · exact ⟨r, rfl⟩
theorem pids_at {v : BitVec 64} {k n : Nat} (hk : k < n) (hv : v.getLsbD k = true) : (pidsK v k).length < (pidsK v n).length ∧ nth (pidsK v n) (pidsK v k).length = k := by
  obtain ⟨r, h⟩ := pids_app v (k + 1) (n - (k + 1))
  rw [show k + 1 + (n - (k + 1)) = n by omega, pidsK, if_pos hv] at h
  rw [h]
  refine ⟨by simp, ?_⟩
  unfold nth
  simp [List.getD]
theorem rd_after {w : World} {A K : Nat} {k : Int} {a : Option Addr} {n c : Nat} {l : List Int} (r : RdAt .i64 w a n c l) (hna : 0 < n → ∀ x, a = some x → x.block ≠ A ∧ x.block ≠ K) : RdAt .i64 (after w A K k) a n c l :=
  ⟨r.len, r.cap, r.max, fun i hi => by
    obtain ⟨b, o, e, hc⟩ := r.cell i hi
    obtain ⟨h1, h2⟩ := hna (by omega) _ e
    refine ⟨b, o, e, ?_⟩
    rw [← hc]
    exact World.cell?_of_block (w := w) (w' := after w A K k) (a := ⟨b, o + i, none⟩) (after_other w A K k h1 h2), r.wf, r.void⟩
theorem below_after {w0 w : World} {A K base : Nat} {k : Int} (h : Below base w0 w) (hA : base ≤ A) (hK : base ≤ K) : Below base w0 (after w A K k) := (h.setCell hA _).setCell hK _
/-- How often Each calls it. -/
def cntE (stop : Int) (len : Nat) : Nat := if (len : Int) ≤ stop then len else min len (max 1 (stop + 1).toNat)
set_option linter.unusedSimpArgs false in
set_option linter.unusedVariables false in
set_option maxRecDepth 100000 in
set_option maxHeartbeats 4000000 in
theorem each_play (g N A K W S : Nat) (v : BitVec 64) (stop : Int) (a : Option Addr) (n c : Nat) (base : Nat) (w : World) (hs : SetAt w g N v) (hN : N ≤ 64) (s : Seen w A K W S 0 stop a n c) (r : RdAt .i64 w a n c (pidsK v N))
    (hAK : A ≠ K) (hWA : W ≠ A) (hWK : W ≠ K) (hSA : S ≠ A) (hSK : S ≠ K) (hna : 0 < n → ∀ x, a = some x → x.block ≠ A ∧ x.block ≠ K) (hgA : g ≠ A) (hgK : g ≠ K) (hbA : base ≤ A) (hbK : base ≤ K) :
    Calls Try.prog 22 #[.pointer (some ⟨g, 0, none⟩), .func (.func 23) #[] #[.pointer (some ⟨A, 0, none⟩), .pointer (some ⟨K, 0, none⟩), .pointer (some ⟨W, 0, none⟩), .pointer (some ⟨S, 0, none⟩)]] w fun e w' => e = .returned (.tuple #[]) ∧ Seen w' A K W S (cntE stop n) stop a n c ∧ Below base w w' := by
  obtain ⟨c0, c1, cf⟩ := hs.cells
  have HS := Lib.hid hs
  have HX := Lib.hid s
  have HR := Lib.hid r
  have hn64 : n ≤ 64 := by have h1 := r.len; have h2 := pidsK_le v N; omega
  have HL := Lib.hid r.len
  clear hs s r
  go_enter Try.func22, Try.ntmps22
  go_wp2_with fail
  go_loopw [9] (fun i wr => ∃ k : Nat, k ≤ N ∧ i = .int .i64 k ∧ SetAt wr g N v ∧ Seen wr A K W S ((pidsK v k).length : Nat) stop a n c ∧ RdAt .i64 wr a n c (pidsK v N) ∧ Below base w wr ∧ ((pidsK v k).length ≠ 0 → ((pidsK v k).length : Int) ≤ stop)) (fun i _ => N - (intOf i).toNat)
  case atStart => exact ⟨0, by omega, rfl, HS.out, HX.out, HR.out, Below.refl _ _, fun h => absurd rfl h⟩
  case round =>
    obtain ⟨k, hk, rfl, hs, hx, hr, hb, hst⟩ := hrel
    clear c0 c1 cf HS HX HR
    obtain ⟨c0, c1, cf⟩ := hs.cells
    have HS := Lib.hid hs
    have HX := Lib.hid hx
    have HR := Lib.hid hr
    have HB := Lib.hid hb
    have HST := Lib.hid hst
    clear hs hx hr hb hst
    by_cases hp : k < N
    · by_cases hb1 : v.getLsbD k = true
      · have hbk : hasB N v k = true := by rw [hasB_nat hp]; exact hb1
        have hat := pids_at hp hb1
        rw [HL.out] at hat
        have HP : Hid ((pidsK v (k + 1)).length = (pidsK v k).length + 1) := by show _ = _; rw [pidsK, if_pos hb1]; simp
        obtain ⟨j, hj⟩ : ∃ j, (pidsK v k).length = j := ⟨_, rfl⟩
        have HJ := Lib.hid hj
        rw [hj] at hat
        obtain ⟨hat1, hat2⟩ := hat
        have HAT := Lib.hid hat2
        have HX2 : Hid (Seen wr A K W S (j : Int) stop a n c) := by rw [← hj]; exact HX
        clear hb1 hat2 hj HX
        by_cases hgo : ((j + 1 : Nat) : Int) ≤ stop
        · have hdd : decide (((j + 1 : Nat) : Int) ≤ stop) = true := decide_eq_true hgo
          have HGO := Lib.hid hgo
          clear hgo
          go_wp2_with (first | (go_at_call 11; refine (has_any _ _ _ _ _ HS.out (by omega)).mono ?_; rintro e w' ⟨rfl, rfl⟩) | (go_at_call 23; refine (play1_any _ _ _ _ _ _ _ _ _ _ _ _ HX2.out HR.out j rfl hat1 HAT.out hAK hWA hWK hSA hSK (fun x hx => (hna (Nat.lt_of_le_of_lt (Nat.zero_le _) hat1) x hx).1) hn64).mono ?_; rintro e w2 ⟨rfl, rfl⟩; rw [hdd]))
          go_roundw
          case rel => exact ⟨k + 1, by omega, by go_num, by unfold SetAt; rw [after_other _ _ _ _ hgA hgK]; exact HS.out, by rw [HP.out, HJ.out]; exact HX2.out.next _ hAK hWA hWK hSA hSK, rd_after HR.out hna, below_after HB.out hbA hbK, fun _ => by rw [HP.out, HJ.out]; exact HGO.out⟩
          case measure => simp [intOf] <;> omega
        · have hdd : decide (((j + 1 : Nat) : Int) ≤ stop) = false := decide_eq_false hgo
          have HC : Hid (cntE stop n = j + 1) := by
            show _ = _
            unfold cntE
            have h1 := HST.out
            rw [HJ.out] at h1
            rw [if_neg (by omega)]
            by_cases hj0 : j = 0
            · omega
            · have h2 := h1 hj0
              omega
          clear hgo
          go_wp2_with (first | (go_at_call 11; refine (has_any _ _ _ _ _ HS.out (by omega)).mono ?_; rintro e w' ⟨rfl, rfl⟩) | (go_at_call 23; refine (play1_any _ _ _ _ _ _ _ _ _ _ _ _ HX2.out HR.out j rfl hat1 HAT.out hAK hWA hWK hSA hSK (fun x hx => (hna (Nat.lt_of_le_of_lt (Nat.zero_le _) hat1) x hx).1) hn64).mono ?_; rintro e w2 ⟨rfl, rfl⟩; rw [hdd]))
          refine bodyPost_ret (results_none rfl _ _ _) rfl ?_
          exact ⟨rfl, by rw [HC.out]; exact HX2.out.next _ hAK hWA hWK hSA hSK, below_after HB.out hbA hbK⟩
      · have hbk : hasB N v k = false := by rw [hasB_nat hp]; simpa using hb1
        have HP : Hid (pidsK v (k + 1) = pidsK v k) := by show _ = _; rw [pidsK, if_neg hb1]
        clear hb1
        go_wp2_with (first | (go_at_call 11; refine (has_any _ _ _ _ _ HS.out (by omega)).mono ?_; rintro e w' ⟨rfl, rfl⟩))
        go_roundw
        case rel => exact ⟨k + 1, by omega, by go_num, HS.out, by rw [HP.out]; exact HX.out, HR.out, HB.out, by rw [HP.out]; exact HST.out⟩
        case measure => simp [intOf] <;> omega
    · obtain rfl : k = N := by omega
      have HC : Hid (cntE stop n = (pidsK v k).length) := by
        show _ = _
        have h1 := HST.out
        rw [HL.out] at h1 ⊢
        unfold cntE
        by_cases h0 : n = 0
        · subst h0; split <;> simp
        · rw [if_pos (h1 h0)]
      go_wp2_with fail
      go_end0
      exact ⟨rfl, by rw [HC.out]; exact HX.out, HB.out⟩
end Go.Proofs.Ytlcmnaponpjhnaa
