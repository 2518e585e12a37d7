/- lz's all: packed bytes. -/
import Derived.Test.YtfoabnoolmeoiaaLzAllLaw
namespace Go.Proofs.Ytfoabnoolmeoiaa
open Go.RowKit
set_option linter.unusedSimpArgs false in
set_option linter.unusedVariables false in
set_option maxRecDepth 100000 in
set_option maxHeartbeats 2000000 in
theorem all_e (h : Nat) (a : Option Addr) (n c : Nat) (x : List Int) (v : Value) (most : Int) (w : World) (r : RdrAt w h a n c x v [] most 0 0) (hn : n = 0) :
    Calls Try.prog 15 #[.pointer (some ⟨h, 0, none⟩)] w fun e w' => e = .returned (.int .i64 21) ∧ Below h w w' := by
  subst hn
  obtain ⟨c0, d1, d2, d3, d4, cf⟩ := cells5 r.row
  clear cf r
  go_enter Try.func15, Try.ntmps15
  go_wp2_with fail
  go_ret
  exact ⟨rfl, Below.refl _ _⟩
set_option linter.unusedSimpArgs false in
set_option linter.unusedVariables false in
set_option maxRecDepth 100000 in
set_option maxHeartbeats 2000000 in
theorem all_o1 (h : Nat) (a : Option Addr) (n c : Nat) (x : List Int) (v : Value) (most : Int) (w : World) (r : RdrAt w h a n c x v [] most 0 0) (q : Int) (hn : 1 ≤ n) (hk : nth x 0 = q) (hq0 : q ≠ 0) (hq1 : q ≠ 1) (hc : c = 1) :
    Calls Try.prog 15 #[.pointer (some ⟨h, 0, none⟩)] w fun e w' => e = .returned (.int .i64 22) ∧ Below h w w' := by
  obtain ⟨b, ad, rfl, hcell⟩ := r.rd.cell 0 (by omega)
  rw [hk] at hcell
  have hcell2 := hcell
  rw [Nat.add_zero] at hcell2
  have hcap := r.rd.cap
  have hmax := r.rd.max
  unfold maxLen at hmax
  have hlow := r.low _ rfl (by omega)
  obtain ⟨c0, d1, d2, d3, d4, cf⟩ := cells5 r.row
  have cf0 := cf 0
  have hlt := r.lt
  have R := Lib.hid r
  clear r cf
  obtain rfl : n = 1 := by omega
  subst hc
  have HBB : Hid (RdrAt (w.setCell ⟨h, 0, none⟩ (.slice (some ⟨b, ad, none⟩) 0 0)) h (some ⟨b, ad, none⟩) 0 0 (x.drop 1) v [] most 0 0) := R.out.setB (by rw [List.drop_of_length_le (by rw [R.out.rd.len]; omega)]; exact rd_empty _ _ (by simp) (by unfold maxLen; omega)) (fun q hq hn => by omega)
  obtain ⟨w1, hw1⟩ : ∃ w1 : World, w1 = w.setCell ⟨h, 0, none⟩ (.slice (some ⟨b, ad, none⟩) 0 0) := ⟨_, rfl⟩
  rw [← hw1] at HBB
  have hb1 : Below h w w1 := by rw [hw1]; exact below_cell w h 0 _
  have hnz : (((1 : Nat) : Int) == 0) = false := beq_eq_false_iff_ne.2 (by omega)
  have hz0 : (q == 0) = false := beq_eq_false_iff_ne.2 hq0
  have hz1 : (q == 1) = false := beq_eq_false_iff_ne.2 hq1
  go_enter Try.func15, Try.ntmps15
  go_wp2_with fail
  simp only [← hw1]
  go_ret
  exact ⟨rfl, hb1⟩
set_option linter.unusedSimpArgs false in
set_option linter.unusedVariables false in
set_option maxRecDepth 100000 in
set_option maxHeartbeats 2000000 in
theorem all_o2 (h : Nat) (a : Option Addr) (n c : Nat) (x : List Int) (v : Value) (most : Int) (w : World) (r : RdrAt w h a n c x v [] most 0 0) (q : Int) (hn : 1 ≤ n) (hk : nth x 0 = q) (hq0 : q ≠ 0) (hq1 : q ≠ 1) (hc : 1 < c) :
    Calls Try.prog 15 #[.pointer (some ⟨h, 0, none⟩)] w fun e w' => e = .returned (.int .i64 22) ∧ Below h w w' := by
  obtain ⟨b, ad, rfl, hcell⟩ := r.rd.cell 0 (by omega)
  rw [hk] at hcell
  have hcell2 := hcell
  rw [Nat.add_zero] at hcell2
  have hcap := r.rd.cap
  have hmax := r.rd.max
  unfold maxLen at hmax
  have hlow := r.low _ rfl (by omega)
  obtain ⟨c0, d1, d2, d3, d4, cf⟩ := cells5 r.row
  have cf0 := cf 0
  have hlt := r.lt
  have R := Lib.hid r
  clear r cf
  have HBB : Hid (RdrAt (w.setCell ⟨h, 0, none⟩ (.slice (some ⟨b, ad + 1, none⟩) (n - 1) (c - 1))) h (some ⟨b, ad + 1, none⟩) (n - 1) (c - 1) (x.drop 1) v [] most 0 0) := R.out.setB (rd_drop R.out.rd 1 (by omega)) (fun q hq _ => by injection hq with hq; subst hq; exact hlow)
  obtain ⟨w1, hw1⟩ : ∃ w1 : World, w1 = w.setCell ⟨h, 0, none⟩ (.slice (some ⟨b, ad + 1, none⟩) (n - 1) (c - 1)) := ⟨_, rfl⟩
  rw [← hw1] at HBB
  have hb1 : Below h w w1 := by rw [hw1]; exact below_cell w h 0 _
  have hnz : (((n : Nat) : Int) == 0) = false := beq_eq_false_iff_ne.2 (by omega)
  have hz0 : (q == 0) = false := beq_eq_false_iff_ne.2 hq0
  have hz1 : (q == 1) = false := beq_eq_false_iff_ne.2 hq1
  go_enter Try.func15, Try.ntmps15
  go_wp2_with fail
  simp only [← hw1]
  go_ret
  exact ⟨rfl, hb1⟩
set_option linter.unusedSimpArgs false in
set_option linter.unusedVariables false in
set_option maxRecDepth 100000 in
set_option maxHeartbeats 2000000 in
theorem all_p1 (h : Nat) (a : Option Addr) (n c : Nat) (x : List Int) (v : Value) (most : Int) (w : World) (r : RdrAt w h a n c x v [] most 0 0) (hn : 1 ≤ n) (hk : nth x 0 = 1) (hc : c = 1) (hm0 : 0 ≤ most) (hmm : most ≤ 2097152) (T : Tok) (hT : toks most (n - 1) (x.drop 1) [] 0 0 = T) :
    Calls Try.prog 15 #[.pointer (some ⟨h, 0, none⟩)] w fun e w' => e = .returned (.int .i64 T.e) ∧ Below h w w' ∧ (T.e = 0 → ∃ a' n' c' x' v', RdrAt w' h a' n' c' x' v' (T).o most (T).lit (T).cop) := by
  obtain ⟨b, ad, rfl, hcell⟩ := r.rd.cell 0 (by omega)
  rw [hk] at hcell
  have hcell2 := hcell
  rw [Nat.add_zero] at hcell2
  have hcap := r.rd.cap
  have hmax := r.rd.max
  unfold maxLen at hmax
  have hlow := r.low _ rfl (by omega)
  obtain ⟨c0, d1, d2, d3, d4, cf⟩ := cells5 r.row
  have cf0 := cf 0
  have hlt := r.lt
  have R := Lib.hid r
  clear r cf
  obtain rfl : n = 1 := by omega
  subst hc
  have HBB : Hid (RdrAt (w.setCell ⟨h, 0, none⟩ (.slice (some ⟨b, ad, none⟩) 0 0)) h (some ⟨b, ad, none⟩) 0 0 (x.drop 1) v [] most 0 0) := R.out.setB (by rw [List.drop_of_length_le (by rw [R.out.rd.len]; omega)]; exact rd_empty _ _ (by simp) (by unfold maxLen; omega)) (fun q hq hn => by omega)
  obtain ⟨w1, hw1⟩ : ∃ w1 : World, w1 = w.setCell ⟨h, 0, none⟩ (.slice (some ⟨b, ad, none⟩) 0 0) := ⟨_, rfl⟩
  rw [← hw1] at HBB
  have hb1 : Below h w w1 := by rw [hw1]; exact below_cell w h 0 _
  have hnz : (((1 : Nat) : Int) == 0) = false := beq_eq_false_iff_ne.2 (by omega)
  go_enter Try.func15, Try.ntmps15
  go_wp2_with fail
  simp only [← hw1]
  clear hw1 c0 d1 d2 d3 d4 cf0 hcell hcell2
  have HT := Lib.hid hT
  clear hT
  go_loopw [4] (fun _ wr => ∃ (f n' c' : Nat) (a' : Option Addr) (x' o' : List Int) (v' : Value) (l' k' : Int), RdrAt wr h a' n' c' x' v' o' most l' k' ∧ x'.length ≤ f ∧ Hid (toks most f x' o' l' k' = T) ∧ (o'.length : Int) ≤ most ∧ 0 ≤ l' ∧ 0 ≤ k' ∧ l' + k' = o'.length ∧ Below h w wr) (fun _ wr => bLen wr h)
  case atStart => exact ⟨_, _, _, _, _, _, _, _, _, HBB.out, (by rw [HBB.out.rd.len]; omega), HT, (by simpa using hm0), by omega, by omega, rfl, hb1⟩
  case round =>
    clear hb1
    obtain ⟨f, n1, c1, a1, x1, o1, v1, l1, k1, r1, hf, hTT, ho, hl, hkk, hs, hb⟩ := hrel
    obtain ⟨c0, d1, d2, d3, d4, cf⟩ := cells5 r1.row
    have hbl := r1.bLen
    have hx1 := r1.rd.len
    have R1 := Lib.hid r1
    clear cf r1
    by_cases hn1 : n1 = 0
    · subst hn1
      go_wp2_with fail
      go_ret
      obtain rfl : x1 = [] := List.length_eq_zero_iff.1 hx1
      have hTv := hTT.out
      rw [toks_nil] at hTv
      subst hTv
      exact ⟨rfl, hb, fun _ => ⟨_, _, _, _, _, R1.out⟩⟩
    · have hgz : decide (0 < (n1 : Int)) = true := decide_eq_true (by omega)
      go_wp2_with fail
      refine (token_any _ _ _ _ _ _ _ _ _ _ _ R1.out ho hmm hl (by omega) hkk (by omega)).mono ?_
      rintro e w2 ⟨rfl, hb2, hgood⟩
      clear c0 d1 d2 d3 d4
      have hb3 := hb.trans hb2
      clear hb hb2
      by_cases hE : tokE x1 o1 most = 0
      · obtain ⟨a2, c2, v2, r2⟩ := hgood hE
        have hsum := tokO_sum hE
        have hle := tokO_len hE ho
        have hlx := tokX_len hE
        obtain ⟨f, rfl⟩ : ∃ f', f = f' + 1 := ⟨f - 1, by omega⟩
        have hTv := hTT.out
        rw [toks_good (by omega) hE] at hTv
        have HT2 := Lib.hid hTv
        have R2 := Lib.hid r2
        have hbl2 := r2.bLen
        clear r2 hgood hTv hTT
        rw [hE]
        go_wp2_with fail
        go_roundw
        case rel => exact ⟨f, _, _, _, _, _, _, _, _, R2.out, by omega, HT2, hle, by omega, by omega, by omega, hb3⟩
        case measure => show bLen _ _ < bLen _ _; rw [hbl, hbl2]; omega
      · have hE2 : (tokE x1 o1 most == 0) = false := beq_eq_false_iff_ne.2 hE
        go_wp2_with fail
        go_ret
        have hTv := hTT.out
        rw [toks_bad (by omega) hf hE] at hTv
        subst hTv
        exact ⟨rfl, hb3, fun h0 => absurd h0 hE⟩
set_option linter.unusedSimpArgs false in
set_option linter.unusedVariables false in
set_option maxRecDepth 100000 in
set_option maxHeartbeats 2000000 in
theorem all_p2 (h : Nat) (a : Option Addr) (n c : Nat) (x : List Int) (v : Value) (most : Int) (w : World) (r : RdrAt w h a n c x v [] most 0 0) (hn : 1 ≤ n) (hk : nth x 0 = 1) (hc : 1 < c) (hm0 : 0 ≤ most) (hmm : most ≤ 2097152) (T : Tok) (hT : toks most (n - 1) (x.drop 1) [] 0 0 = T) :
    Calls Try.prog 15 #[.pointer (some ⟨h, 0, none⟩)] w fun e w' => e = .returned (.int .i64 T.e) ∧ Below h w w' ∧ (T.e = 0 → ∃ a' n' c' x' v', RdrAt w' h a' n' c' x' v' (T).o most (T).lit (T).cop) := by
  obtain ⟨b, ad, rfl, hcell⟩ := r.rd.cell 0 (by omega)
  rw [hk] at hcell
  have hcell2 := hcell
  rw [Nat.add_zero] at hcell2
  have hcap := r.rd.cap
  have hmax := r.rd.max
  unfold maxLen at hmax
  have hlow := r.low _ rfl (by omega)
  obtain ⟨c0, d1, d2, d3, d4, cf⟩ := cells5 r.row
  have cf0 := cf 0
  have hlt := r.lt
  have R := Lib.hid r
  clear r cf
  have HBB : Hid (RdrAt (w.setCell ⟨h, 0, none⟩ (.slice (some ⟨b, ad + 1, none⟩) (n - 1) (c - 1))) h (some ⟨b, ad + 1, none⟩) (n - 1) (c - 1) (x.drop 1) v [] most 0 0) := R.out.setB (rd_drop R.out.rd 1 (by omega)) (fun q hq _ => by injection hq with hq; subst hq; exact hlow)
  obtain ⟨w1, hw1⟩ : ∃ w1 : World, w1 = w.setCell ⟨h, 0, none⟩ (.slice (some ⟨b, ad + 1, none⟩) (n - 1) (c - 1)) := ⟨_, rfl⟩
  rw [← hw1] at HBB
  have hb1 : Below h w w1 := by rw [hw1]; exact below_cell w h 0 _
  have hnz : (((n : Nat) : Int) == 0) = false := beq_eq_false_iff_ne.2 (by omega)
  go_enter Try.func15, Try.ntmps15
  go_wp2_with fail
  simp only [← hw1]
  clear hw1 c0 d1 d2 d3 d4 cf0 hcell hcell2
  have HT := Lib.hid hT
  clear hT
  go_loopw [4] (fun _ wr => ∃ (f n' c' : Nat) (a' : Option Addr) (x' o' : List Int) (v' : Value) (l' k' : Int), RdrAt wr h a' n' c' x' v' o' most l' k' ∧ x'.length ≤ f ∧ Hid (toks most f x' o' l' k' = T) ∧ (o'.length : Int) ≤ most ∧ 0 ≤ l' ∧ 0 ≤ k' ∧ l' + k' = o'.length ∧ Below h w wr) (fun _ wr => bLen wr h)
  case atStart => exact ⟨_, _, _, _, _, _, _, _, _, HBB.out, (by rw [HBB.out.rd.len]; omega), HT, (by simpa using hm0), by omega, by omega, rfl, hb1⟩
  case round =>
    clear hb1
    obtain ⟨f, n1, c1, a1, x1, o1, v1, l1, k1, r1, hf, hTT, ho, hl, hkk, hs, hb⟩ := hrel
    obtain ⟨c0, d1, d2, d3, d4, cf⟩ := cells5 r1.row
    have hbl := r1.bLen
    have hx1 := r1.rd.len
    have R1 := Lib.hid r1
    clear cf r1
    by_cases hn1 : n1 = 0
    · subst hn1
      go_wp2_with fail
      go_ret
      obtain rfl : x1 = [] := List.length_eq_zero_iff.1 hx1
      have hTv := hTT.out
      rw [toks_nil] at hTv
      subst hTv
      exact ⟨rfl, hb, fun _ => ⟨_, _, _, _, _, R1.out⟩⟩
    · have hgz : decide (0 < (n1 : Int)) = true := decide_eq_true (by omega)
      go_wp2_with fail
      refine (token_any _ _ _ _ _ _ _ _ _ _ _ R1.out ho hmm hl (by omega) hkk (by omega)).mono ?_
      rintro e w2 ⟨rfl, hb2, hgood⟩
      clear c0 d1 d2 d3 d4
      have hb3 := hb.trans hb2
      clear hb hb2
      by_cases hE : tokE x1 o1 most = 0
      · obtain ⟨a2, c2, v2, r2⟩ := hgood hE
        have hsum := tokO_sum hE
        have hle := tokO_len hE ho
        have hlx := tokX_len hE
        obtain ⟨f, rfl⟩ : ∃ f', f = f' + 1 := ⟨f - 1, by omega⟩
        have hTv := hTT.out
        rw [toks_good (by omega) hE] at hTv
        have HT2 := Lib.hid hTv
        have R2 := Lib.hid r2
        have hbl2 := r2.bLen
        clear r2 hgood hTv hTT
        rw [hE]
        go_wp2_with fail
        go_roundw
        case rel => exact ⟨f, _, _, _, _, _, _, _, _, R2.out, by omega, HT2, hle, by omega, by omega, by omega, hb3⟩
        case measure => show bLen _ _ < bLen _ _; rw [hbl, hbl2]; omega
      · have hE2 : (tokE x1 o1 most == 0) = false := beq_eq_false_iff_ne.2 hE
        go_wp2_with fail
        go_ret
        have hTv := hTT.out
        rw [toks_bad (by omega) hf hE] at hTv
        subst hTv
        exact ⟨rfl, hb3, fun h0 => absurd h0 hE⟩
end Go.Proofs.Ytfoabnoolmeoiaa
