/- codec's Reader: the contracts of count and of the closures that are tried. -/
import Derived.Test.YtnlhpfcepbmbfaaCRdI
namespace Go.Proofs.Ytnlhpfcepbmbfaa
open Go.RowKit
variable {B : Nat}
set_option linter.unusedSimpArgs false in
set_option linter.unusedVariables false in
set_option maxRecDepth 100000 in
set_option maxHeartbeats 1000000 in
theorem count_any (h : Nat) (most : Int) (l : List Int) (w : World) (r : RIn B w h l 0) :
    Calls Try.prog 49 #[.pointer (some ⟨h, 0, none⟩), .int .i64 most] w (RPost B isI h (rdBetween 0 most l) w) := by
  have hbd := rdInt_bd r.wf
  go_enter Try.func49, Try.ntmps49
  go_wp2_with fail
  refine (int_post h l w r).mono ?_
  rintro e w1 ⟨hg, hr, hcase⟩
  obtain ⟨N, hN⟩ : ∃ N, (rdInt l).v = N := ⟨_, rfl⟩
  rcases hcase with ⟨h0, v, rfl, hv⟩ | ⟨h1, rfl⟩
  · replace hv : v = .int .i64 (rdInt l).v := hv
    rw [hN] at hv hbd
    subst hv
    have HN := Lib.hid hN
    have H0 := Lib.hid h0
    clear hN h0
    by_cases q1 : N < 0
    · have d1 : decide (N < 0) = true := decide_eq_true q1
      have HB : Hid (rdBetween 0 most l = ⟨22, 0, (rdInt l).l⟩) := by show _ = _; unfold rdBetween; rw [if_neg (by simpa using H0.out), HN.out, if_pos (.inl q1)]
      go_wp2_with fail
      refine (refuse_yes 22 _).mono ?_
      rintro e w2 ⟨rfl, rfl⟩
      refine ⟨rfl, ?_⟩
      rw [HB.out]
      exact ⟨hg, hr, .inr ⟨(show (22 : Int) ≠ 0 by decide), rfl⟩⟩
    · have d1 : decide (N < 0) = false := decide_eq_false q1
      by_cases q2 : most < N
      · have d2 : decide (most < N) = true := decide_eq_true q2
        have HB : Hid (rdBetween 0 most l = ⟨22, 0, (rdInt l).l⟩) := by show _ = _; unfold rdBetween; rw [if_neg (by simpa using H0.out), HN.out, if_pos (.inr q2)]
        go_wp2_with fail
        refine (refuse_yes 22 _).mono ?_
        rintro e w2 ⟨rfl, rfl⟩
        refine ⟨rfl, ?_⟩
        rw [HB.out]
        exact ⟨hg, hr, .inr ⟨(show (22 : Int) ≠ 0 by decide), rfl⟩⟩
      · have d2 : decide (most < N) = false := decide_eq_false q2
        have HB : Hid (rdBetween 0 most l = rdInt l) := by show _ = _; unfold rdBetween; rw [if_neg (by simpa using H0.out), HN.out, if_neg (by omega)]
        go_wp2_with fail
        refine (refuse_no 22 _).mono ?_
        rintro e w2 ⟨rfl, rfl⟩
        go_wp2_with fail
        go_ret
        rw [HB.out]
        exact ⟨hg, hr, .inl ⟨H0.out, _, rfl, by rw [HN.out]; rfl⟩⟩
  · have HB : Hid (rdBetween 0 most l = ⟨(rdInt l).e, 0, (rdInt l).l⟩) := by show _ = _; unfold rdBetween; rw [if_pos h1]
    refine ⟨rfl, ?_⟩
    rw [HB.out]
    exact ⟨hg, hr, .inr ⟨h1, rfl⟩⟩
set_option linter.unusedSimpArgs false in
set_option linter.unusedVariables false in
set_option maxRecDepth 100000 in
set_option maxHeartbeats 1000000 in
theorem between1_any (h : Nat) (R L H : Nat) (lo hi : Int) (l : List Int) (w : World) (r : RIn B w h l 0) (hR : w.heap[R]? = some (.cells #[.pointer (some ⟨h, 0, none⟩)] 35 (0, 0))) (hL : w.heap[L]? = some (.cells #[.int .i64 lo] 3 (0, 0))) (hH : w.heap[H]? = some (.cells #[.int .i64 hi] 3 (0, 0))) (kR : R ≠ h) (kL : L ≠ h) (kH : H ≠ h) :
    Calls Try.prog 45 #[.pointer (some ⟨R, 0, none⟩), .pointer (some ⟨L, 0, none⟩), .pointer (some ⟨H, 0, none⟩)] w (RPost B isI h (rdBetween lo hi l) w) := by
  have hbd := rdInt_bd r.wf
  have cR := one_cell hR
  go_enter Try.func45, Try.ntmps45
  go_wp2_with fail
  refine (int_post h l w r).mono ?_
  rintro e w1 ⟨hg, hr, hcase⟩
  have cL := one_cell (heap_kept hL hg kL)
  have cH := one_cell (heap_kept hH hg kH)
  obtain ⟨N, hN⟩ : ∃ N, (rdInt l).v = N := ⟨_, rfl⟩
  rcases hcase with ⟨h0, v, rfl, hv⟩ | ⟨h1, rfl⟩
  · replace hv : v = .int .i64 (rdInt l).v := hv
    rw [hN] at hv hbd
    subst hv
    have HN := Lib.hid hN
    have H0 := Lib.hid h0
    clear hN h0
    by_cases q1 : N < lo
    · have d1 : decide (N < lo) = true := decide_eq_true q1
      have HB : Hid (rdBetween lo hi l = ⟨22, 0, (rdInt l).l⟩) := by show _ = _; unfold rdBetween; rw [if_neg (by simpa using H0.out), HN.out, if_pos (.inl q1)]
      go_wp2_with fail
      refine (refuse_yes 22 _).mono ?_
      rintro e w2 ⟨rfl, rfl⟩
      refine ⟨rfl, ?_⟩
      rw [HB.out]
      exact ⟨hg, hr, .inr ⟨(show (22 : Int) ≠ 0 by decide), rfl⟩⟩
    · have d1 : decide (N < lo) = false := decide_eq_false q1
      by_cases q2 : hi < N
      · have d2 : decide (hi < N) = true := decide_eq_true q2
        have HB : Hid (rdBetween lo hi l = ⟨22, 0, (rdInt l).l⟩) := by show _ = _; unfold rdBetween; rw [if_neg (by simpa using H0.out), HN.out, if_pos (.inr q2)]
        go_wp2_with fail
        refine (refuse_yes 22 _).mono ?_
        rintro e w2 ⟨rfl, rfl⟩
        refine ⟨rfl, ?_⟩
        rw [HB.out]
        exact ⟨hg, hr, .inr ⟨(show (22 : Int) ≠ 0 by decide), rfl⟩⟩
      · have d2 : decide (hi < N) = false := decide_eq_false q2
        have HB : Hid (rdBetween lo hi l = rdInt l) := by show _ = _; unfold rdBetween; rw [if_neg (by simpa using H0.out), HN.out, if_neg (by omega)]
        go_wp2_with fail
        refine (refuse_no 22 _).mono ?_
        rintro e w2 ⟨rfl, rfl⟩
        go_wp2_with fail
        go_ret
        rw [HB.out]
        exact ⟨hg, hr, .inl ⟨H0.out, _, rfl, by rw [HN.out]; rfl⟩⟩
  · have HB : Hid (rdBetween lo hi l = ⟨(rdInt l).e, 0, (rdInt l).l⟩) := by show _ = _; unfold rdBetween; rw [if_pos h1]
    refine ⟨rfl, ?_⟩
    rw [HB.out]
    exact ⟨hg, hr, .inr ⟨h1, rfl⟩⟩
set_option linter.unusedSimpArgs false in
set_option linter.unusedVariables false in
set_option maxRecDepth 100000 in
set_option maxHeartbeats 1000000 in
theorem bytes1_any (h R M : Nat) (most : Int) (l : List Int) (w : World) (r : RIn B w h l 0) (hR : w.heap[R]? = some (.cells #[.pointer (some ⟨h, 0, none⟩)] 35 (0, 0))) (hM : w.heap[M]? = some (.cells #[.int .i64 most] 3 (0, 0))) (kR : R ≠ h) (kM : M ≠ h) (hl : l.length ≤ 1000000) :
    Calls Try.prog 48 #[.pointer (some ⟨R, 0, none⟩), .pointer (some ⟨M, 0, none⟩)] w (RPost B isB h (rdBytes most l) w) := by
  have cR0 := one_cell hR
  have cM0 := one_cell hM
  have hR0 := Lib.hid hR
  clear hR
  go_enter Try.func48, Try.ntmps48
  go_wp2_with fail
  refine (count_any h most l w r).mono ?_
  rintro e w1 ⟨hg, hr, hcase⟩
  have hR1 := Lib.hid (heap_kept hR0.out hg kR)
  have cR := one_cell hR1.out
  clear cR0 cM0
  rcases hcase with ⟨h0, v, rfl, hv⟩ | ⟨h1, rfl⟩
  · replace hv : v = .int .i64 (rdBetween 0 most l).v := hv
    obtain ⟨hb1, hb2, hb3, hb4⟩ := rdBetween_ok h0
    have hsh := rdInt_len hb2
    rw [← hb1] at hb3 hb4 hsh
    obtain ⟨N, hN⟩ : ∃ N, (rdBetween 0 most l).v = N := ⟨_, rfl⟩
    obtain ⟨l1, hl1⟩ : ∃ l1, (rdBetween 0 most l).l = l1 := ⟨_, rfl⟩
    rw [hN] at hv hb3 hb4
    rw [hl1] at hr hsh
    subst hv
    obtain ⟨k, rfl⟩ := Int.eq_ofNat_of_zero_le hb3
    have HN := Lib.hid hN
    have HL1 := Lib.hid hl1
    have H0 := Lib.hid h0
    obtain ⟨a, n, c, hc⟩ := hr
    obtain ⟨c0, c1, cf⟩ := hc.cells
    have hln := hc.rd.len
    rw [hln] at hsh
    have hcap := hc.rd.cap
    have hmax := hc.rd.max
    unfold maxLen at hmax
    have HC := Lib.hid hc
    have HLN := Lib.hid hln
    clear hN hl1 h0 hb1 hb2 hc hln
    by_cases q : n < k
    · have d1 : decide ((n : Int) < k) = true := decide_eq_true (by omega)
      have d1n : decide (n < k) = true := decide_eq_true q
      have HB : Hid (rdBytes most l = ⟨21, [], l1⟩) := by show _ = _; unfold rdBytes; rw [if_neg (by simpa using H0.out), HN.out, HL1.out, HLN.out, if_pos (by omega)]
      go_wp2_with fail
      refine (refuse_yes 21 _).mono ?_
      rintro e w2 ⟨rfl, rfl⟩
      refine ⟨rfl, ?_⟩
      rw [HB.out]
      exact ⟨hg, ⟨_, _, _, HC.out⟩, .inr ⟨(show (21 : Int) ≠ 0 by decide), rfl⟩⟩
    · have d1 : decide ((n : Int) < k) = false := decide_eq_false (by omega)
      have d1n : decide (n < k) = false := decide_eq_false q
      have hkn : k ≤ n := by omega
      have hkc : k ≤ c := by omega
      have HB : Hid (rdBytes most l = ⟨0, l1.take k, l1.drop k⟩) := by show _ = _; unfold rdBytes; rw [if_neg (by simpa using H0.out), HN.out, HL1.out, HLN.out, if_neg (by omega)]; rfl
      have hrt := rd_takeR HC.out.rd k c (by omega) (by omega) (Nat.le_refl _) HC.out.rd.void
      have HRT := Lib.hid hrt
      clear hrt
      go_wp2_with fail
      refine (refuse_no 21 _).mono ?_
      rintro e w2 ⟨rfl, rfl⟩
      go_wp2_with fail
      refine (clone_any _ _ _ (l1.take k) _ HRT.out (by omega)).mono ?_
      rintro e w3 ⟨v3, rfl, ho3, hb3'⟩
      have HO3 := Lib.hid ho3
      have HC3 := Lib.hid (HC.out.below hb3')
      have HG3 : Hid (w.grownBy w3 (some h)) := grown_trans hg (below_grown hb3' HC.out.lt)
      have hR3 := Lib.hid (below_row hR1.out hb3')
      have cR3 := one_cell hR3.out
      have HSZ := Lib.hid hb3'.size
      clear c0 c1 cf cR ho3 hb3'
      obtain ⟨c0, c1, cf⟩ := HC3.out.cells
      obtain ⟨q3, hq3⟩ : ∃ q3, (l1.take k).length = q3 := ⟨_, rfl⟩
      obtain ⟨a3, k3, rfl⟩ := HO3.out.shapeN q3 hq3
      clear hq3
      have hGsz := hg.size
      cases a with
      | none =>
        obtain rfl : c = 0 := HC.out.rd.void rfl
        obtain rfl : n = 0 := by omega
        obtain rfl : k = 0 := by omega
        go_wp2_with fail
        go_region
        go_wp2_with fail
        go_ret
        rw [HB.out]
        refine ⟨grown_trans HG3.out (grown_drew (rcell_grown _ _ _ _)), ⟨_, _, _, crdr_drew (HC3.out.setB (l' := l1.drop 0) (by rw [List.drop_zero]; exact HC3.out.rd) HC3.out.lo HC3.out.sp HC3.out.hi)⟩, .inl ⟨rfl, _, rfl, ?_⟩⟩
        exact (HO3.out.grown (rcell_grown _ _ _ _) (fun g hg' e => by have h1 := (HO3.out.at_base g hg').1; have h2 := HC.out.lt; injection e with e; omega)).mono hGsz
      | some ad =>
        obtain ⟨b, o, rfl⟩ : ∃ b o, ad = ⟨b, o, none⟩ := by
          obtain ⟨b, o, sp⟩ := ad
          have := HC.out.sp _ rfl
          exact ⟨b, o, by rw [show sp = none from this]⟩
        have hif : ∀ (A B : Option Addr), (if c = k then A else B) = pkr c k A B := fun _ _ => rfl
        have R4 := Lib.hid (rd_pkr HC3.out.rd k (by omega))
        go_wp2_with fail
        go_region
        go_wp2_with fail
        go_ret
        rw [HB.out]
        refine ⟨grown_trans HG3.out (grown_drew (rcell_grown _ _ _ _)), ⟨_, _, _, crdr_drew (HC3.out.setB R4.out (fun q hq hn => by rw [pkr_block hq]; exact HC.out.lo _ rfl (by omega)) (fun q hq => pkr_spot hq) (fun q hq hn => by rw [pkr_block hq]; exact HC.out.hi _ rfl (by omega)))⟩, .inl ⟨rfl, _, rfl, ?_⟩⟩
        exact (HO3.out.grown (rcell_grown _ _ _ _) (fun g hg' e => by have h1 := (HO3.out.at_base g hg').1; have h2 := HC.out.lt; injection e with e; omega)).mono hGsz
  · have HB : Hid (rdBytes most l = ⟨(rdBetween 0 most l).e, [], (rdBetween 0 most l).l⟩) := by show _ = _; unfold rdBytes; rw [if_pos h1]
    refine ⟨rfl, ?_⟩
    rw [HB.out]
    exact ⟨hg, hr, .inr ⟨h1, rfl⟩⟩
theorem i64I3 : elemInfo Try.prog 3 .i64 8 := by unfold elemInfo; kernel_rfl
theorem i64T3 : Try.prog.underlying 41 = some (.slice 3) := Try.underlying41
theorem rdInts_bad {k : Nat} {l : List Int} (h : (rdInt l).e ≠ 0) : rdInts (k + 1) l = ⟨(rdInt l).e, [], (rdInt l).l⟩ := by rw [rdInts, if_pos h]
/-- What so many numbers come to, when some have been read. -/
def accR (acc : List Int) (r : Rd (List Int)) : Rd (List Int) := if r.e ≠ 0 then ⟨r.e, [], r.l⟩ else ⟨0, acc ++ r.v, r.l⟩
theorem acc_step {acc : List Int} {k : Nat} {l : List Int} (h : (rdInt l).e = 0) : accR acc (rdInts (k + 1) l) = accR (acc ++ [(rdInt l).v]) (rdInts k (rdInt l).l) := by
  rw [rdInts, if_neg (by simpa using h)]
  unfold accR
  by_cases h2 : (rdInts k (rdInt l).l).e = 0
  · rw [if_neg (show ¬ (rdInts k (rdInt l).l).e ≠ 0 by simpa using h2)]
    simp [h2]
  · rw [if_pos h2]
    simp [h2]
set_option linter.unusedSimpArgs false in
set_option linter.unusedVariables false in
set_option maxRecDepth 100000 in
set_option maxHeartbeats 1000000 in
theorem list1_any (h R M : Nat) (most : Int) (l : List Int) (w : World) (r : RIn B w h l 0) (hR : w.heap[R]? = some (.cells #[.pointer (some ⟨h, 0, none⟩)] 35 (0, 0))) (hM : w.heap[M]? = some (.cells #[.int .i64 most] 3 (0, 0))) (kR : R ≠ h) (kM : M ≠ h) (hl : l.length ≤ 1000000) :
    Calls Try.prog 51 #[.pointer (some ⟨R, 0, none⟩), .pointer (some ⟨M, 0, none⟩)] w (RPost B isL h (rdList most l) w) := by
  have cR0 := one_cell hR
  have cM0 := one_cell hM
  have hR0 := Lib.hid hR
  have hlt := r.lt
  obtain ⟨T, hT⟩ : ∃ T, rdList most l = T := ⟨_, rfl⟩
  rw [hT]
  have HTT := Lib.hid hT
  clear hR hT
  go_enter Try.func51, Try.ntmps51
  go_wp2_with fail
  refine (count_any h most l w r).mono ?_
  rintro e w1 ⟨hg, hr, hcase⟩
  have hR1 := Lib.hid (heap_kept hR0.out hg kR)
  clear cR0 cM0
  rcases hcase with ⟨h0, v, rfl, hv⟩ | ⟨h1, rfl⟩
  · replace hv : v = .int .i64 (rdBetween 0 most l).v := hv
    obtain ⟨hb1, hb2, hb3, hb4⟩ := rdBetween_ok h0
    have hbd := (rdInt_bd r.wf).2
    have hsh := rdInt_len hb2
    rw [← hb1] at hb3 hb4 hsh hbd
    obtain ⟨N, hN⟩ : ∃ N, (rdBetween 0 most l).v = N := ⟨_, rfl⟩
    obtain ⟨l1, hl1⟩ : ∃ l1, (rdBetween 0 most l).l = l1 := ⟨_, rfl⟩
    rw [hN] at hv hb3 hb4 hbd
    rw [hl1] at hr hsh
    subst hv
    obtain ⟨k, rfl⟩ := Int.eq_ofNat_of_zero_le hb3
    have hT := HTT.out
    have hT2 : accR [] (rdInts k l1) = T := by
      rw [← hT]; unfold rdList; rw [if_neg (by simpa using h0), hN, hl1]; unfold accR
      have := rdInts_z k l1
      by_cases he : (rdInts k l1).e = 0
      · rw [if_neg (by simpa using he), List.nil_append]
        show _ = rdInts k l1
        generalize rdInts k l1 = q at *
        cases q
        simp at he
        rw [he]
      · rw [if_pos he]
        have := this he
        show _ = rdInts k l1
        generalize rdInts k l1 = q at *
        cases q
        simp at this
        rw [this]
    have HT2 := Lib.hid hT2
    have HR1 := Lib.hid hr
    have HG := Lib.hid hg
    have hkb : k ≤ 9223372036854775807 := by omega
    clear hN hl1 h0 hb1 hb2 hT hT2 hr hg hb3 hb4 hbd HTT
    go_wp2_with fail
    go_loopw [3, 7] (fun x i wr => ∃ (j : Nat) (acc l' : List Int), j ≤ k ∧ i = .int .i64 j ∧ Owns .i64 3 wr w.heap.size x acc ∧ RIn B wr h l' 0 ∧ w.grownBy wr (some h) ∧ Hid (accR acc (rdInts (k - j) l') = T) ∧ acc.length + l'.length ≤ 1000000) (fun _ i _ => k - (intOf i).toNat)
    case atStart => exact ⟨0, [], l1, by omega, rfl, Owns.nil _ _ _ _, HR1.out, HG.out, HT2, by simp; omega⟩
    case round =>
      clear HR1 HG HT2
      obtain ⟨j, acc, l', hj, rfl, ow, hr, hg, HT, hsum⟩ := hrel
      have hRr := heap_kept hR0.out hg kR
      have cR := one_cell hRr
      obtain ⟨q, hq⟩ : ∃ q, acc.length = q := ⟨_, rfl⟩
      obtain ⟨ax, cx, rfl⟩ := ow.shapeN q hq
      have OW := Lib.hid ow
      have HQ := Lib.hid hq
      have HR := Lib.hid hr
      have HG := Lib.hid hg
      rw [hq] at hsum
      have hsz := hg.size
      clear ow hq hr hg hRr
      by_cases hp : j < k
      · obtain ⟨m, hm⟩ : ∃ m, k - j = m + 1 := ⟨k - j - 1, by omega⟩
        have hbd := rdInt_bd HR.out.wf
        go_wp2_with fail
        refine (int_post h l' wr HR.out).mono ?_
        rintro e w2 ⟨hg2, hr2, hcase⟩
        rcases hcase with ⟨h0, v, rfl, hv⟩ | ⟨h1, rfl⟩
        · replace hv : v = .int .i64 (rdInt l').v := hv
          have hTs := HT.out
          rw [hm, acc_step h0] at hTs
          have hsh := rdInt_len h0
          obtain ⟨V, hV⟩ : ∃ V, (rdInt l').v = V := ⟨_, rfl⟩
          obtain ⟨l2, hl2⟩ : ∃ l2, (rdInt l').l = l2 := ⟨_, rfl⟩
          rw [hV] at hv hbd hTs
          rw [hl2] at hr2 hsh hTs
          subst hv
          have HTS := Lib.hid hTs
          have HR2 := Lib.hid hr2
          have HG2 := Lib.hid (grown_trans HG.out hg2)
          have OW2 := Lib.hid (OW.out.grown hg2 (fun g hg' e => by have h1 := (OW.out.at_base g hg').1; injection e with e; omega))
          have hlt2 := hr2.lt
          have hsz2 := hg2.size
          clear hTs hr2 hg2 hV hl2 h0 HT
          go_wp2_with (at_builtin; refine app_one i64T3 i64I3 (by decide) rfl (.tmp 9) (.tmp 12) rfl _ w.heap.size _ acc rfl OW2.out _ rfl (WalkArith.wf_i64 hbd) (by rw [HQ.out]; omega) (by omega) ?_; intro x3 w3 ho3 hg3)
          have HG3 := Lib.hid (grown_more HG2.out hg3.1 (fun g hg' => (OW2.out.at_base g hg').1))
          have HR3 := Lib.hid (HR2.out.grown hg3.1 (fun g hg' => by have h1 := (OW2.out.at_base g hg').1; omega))
          go_roundw
          case rel => exact ⟨j + 1, _, l2, by omega, by go_num, ho3, HR3.out, HG3.out, by rw [show k - (j + 1) = m by omega]; exact HTS, by rw [List.length_append, HQ.out]; simp; omega⟩
          case measure => simp [intOf] <;> omega
        · have hTs := HT.out
          rw [hm, rdInts_bad h1] at hTs
          unfold accR at hTs
          rw [if_pos h1] at hTs
          subst hTs
          exact ⟨rfl, grown_trans HG.out hg2, hr2, .inr ⟨h1, rfl⟩⟩
      · obtain rfl : j = k := by omega
        have hTs := HT.out
        rw [Nat.sub_self] at hTs
        unfold accR rdInts at hTs
        simp at hTs
        subst hTs
        go_wp2_with fail
        go_ret
        exact ⟨HG.out, HR.out, .inl ⟨rfl, _, rfl, OW.out⟩⟩
  · have HB : Hid (T = ⟨(rdBetween 0 most l).e, [], (rdBetween 0 most l).l⟩) := by show _ = _; rw [← HTT.out]; unfold rdList; rw [if_pos h1]
    refine ⟨rfl, ?_⟩
    rw [HB.out]
    exact ⟨hg, hr, .inr ⟨h1, rfl⟩⟩
end Go.Proofs.Ytnlhpfcepbmbfaa
