/- The reference's Reader of records: Bytes. -/
import Derived.Test.YtnlhpfcepbmbfaaRRdr2
namespace Go.Proofs.Ytnlhpfcepbmbfaa
open Go.RowKit
def byt (T : Rd Int) : Rd (List Int) := if T.e ≠ 0 then ⟨T.e, [], T.l⟩ else if (T.l.length : Int) < T.v then ⟨21, [], T.l⟩ else ⟨0, T.l.take T.v.toNat, T.l.drop T.v.toNat⟩
theorem byt_eq (e0 most : Int) (l : List Int) : rdFrom e0 [] l (rdBytes most l) = byt (rdFrom e0 0 l (rdBetween 0 most l)) := by
  by_cases h0 : e0 = 0
  · subst h0
    rw [rdFrom_ok, rdFrom_ok]
    rfl
  · rw [rdFrom_bad _ _ _ h0, rdFrom_bad _ _ _ h0]
    unfold byt
    rw [if_pos h0]
theorem rdInt_le (l : List Int) : (rdInt l).l.length ≤ l.length := by
  by_cases h : rvE l l.length = 0
  · rw [rdInt_ok h]; simp
  · rw [rdInt_bad h]; exact Nat.le_refl _
theorem btw_len (e0 lo hi : Int) (l : List Int) : (rdFrom e0 0 l (rdBetween lo hi l)).l.length ≤ l.length := by
  unfold rdFrom
  split
  · exact Nat.le_refl _
  · unfold rdBetween
    split
    · exact rdInt_le l
    · split
      · exact rdInt_le l
      · exact rdInt_le l
theorem btw_pos {most V : Int} {T : Rd Int} {l : List Int} (h : btw 0 most T = ⟨0, V, l⟩) : 0 ≤ V := by
  unfold btw at h
  split at h
  · rename_i h1
    injection h with h2 _ _
    exact absurd h2 h1
  · split at h
    · injection h with h2 _ _
      cases h2
    · rename_i h2
      rw [h] at h2
      have h3 : ¬ (V < 0 ∨ most < V) := h2
      omega
set_option linter.unusedSimpArgs false in
set_option linter.unusedVariables false in
set_option maxRecDepth 100000 in
set_option maxHeartbeats 2000000 in
theorem rrBytes_any (h : Nat) (most : Int) (l : List Int) (e0 : Int) (w : World) (r : RRIn w h l e0) (hl : l.length ≤ 1000000) :
    Calls Try.prog 24 #[.pointer (some ⟨h, 0, none⟩), .int .i64 most] w (RREnd isB h (rdFrom e0 [] l (rdBytes most l)) w) := by
  rw [byt_eq]
  obtain ⟨⟨E, V, l1⟩, hT⟩ : ∃ T, rdFrom e0 0 l (rdBetween 0 most l) = T := ⟨_, rfl⟩
  have hV : E = 0 → 0 ≤ V := fun h0 => by
    rw [btw_eq, h0] at hT
    exact btw_pos hT
  have hle : l1.length ≤ l.length := by
    have h1 : (rdFrom e0 0 l (rdBetween 0 most l)).l.length ≤ l.length := btw_len e0 0 most l
    rw [hT] at h1
    exact h1
  have HLE := Lib.hid (Nat.le_trans hle hl)
  have hcnt := rrcount_any h most l e0 w r
  rw [hT] at hcnt ⊢
  have HC := Lib.hid hcnt
  have hlt := r.lt
  clear hT hcnt
  by_cases hE : E = 0
  · subst hE
    obtain ⟨k, rfl⟩ := Int.eq_ofNat_of_zero_le (hV rfl)
    clear hV
    go_enter Try.func24, Try.ntmps24
    go_wp2_with fail
    refine HC.out.mono ?_
    rintro e w1 ⟨hg, hr, V', rfl, hv⟩
    obtain rfl : V' = (k : Int) := hv rfl
    rw [show decide ((⟨0, (k : Int), l1⟩ : Rd Int).e = 0) = true from rfl]
    replace hr : RRIn w1 h l1 0 := hr
    obtain ⟨a, n, c, hc⟩ := hr
    obtain ⟨y0, y1, yf⟩ := hc.cells
    have hln := hc.rd.len
    have hcap := hc.rd.cap
    have hmax := hc.rd.max
    unfold maxLen at hmax
    have R1 := Lib.hid hc
    have G1 := Lib.hid hg
    have HLN := Lib.hid hln
    have hsz := hg.size
    clear hc hln hg hv
    by_cases q : n < k
    · have d1 : decide ((n : Int) < k) = true := decide_eq_true (by omega)
      have d1n : decide (n < k) = true := decide_eq_true q
      have HB : Hid (byt ⟨0, k, l1⟩ = ⟨21, [], l1⟩) := by show _ = _; unfold byt; rw [if_neg (by simp), if_pos (by show (l1.length : Int) < k; rw [HLN.out]; omega)]
      go_wp2_with fail
      refine (fail_ok h l1 21 w1 ⟨_, _, _, R1.out⟩).mono ?_
      rintro e w2 ⟨rfl, hr2, hg2⟩
      have R2 := Lib.hid hr2
      have G2 := Lib.hid hg2
      clear hr2 hg2 y0 y1 yf
      go_wp2_with fail
      go_ret
      rw [HB.out]
      exact ⟨G1.out.trans G2.out, R2.out, _, rfl, Owns.nil _ _ _ _⟩
    · have d1 : decide ((n : Int) < k) = false := decide_eq_false (by omega)
      have d1n : decide (n < k) = false := decide_eq_false q
      have hkn : k ≤ n := by omega
      have hkc : k ≤ c := by omega
      have HB : Hid (byt ⟨0, k, l1⟩ = ⟨0, l1.take k, l1.drop k⟩) := by show _ = _; unfold byt; rw [if_neg (by simp), if_neg (by show ¬ (l1.length : Int) < k; rw [HLN.out]; omega)]; rfl
      have hrt := rd_takeR R1.out.rd k c (by omega) (by omega) (Nat.le_refl _) R1.out.rd.void
      have HRT := Lib.hid hrt
      clear hrt
      have HLL : Hid (n ≤ 1000000) := by show _ ≤ _; have := HLE.out; rw [HLN.out] at this; omega
      have hnb := HLL.out
      have hh1 := R1.out.lt
      cases a with
      | none =>
        obtain rfl : c = 0 := R1.out.rd.void rfl
        obtain rfl : n = 0 := by omega
        obtain rfl : k = 0 := by omega
        go_wp2_with fail
        go_ret
        rw [HB.out]
        have R3 := R1.out.setB (l' := l1.drop 0) (by rw [List.drop_zero]; exact R1.out.rd) (fun q hq _ => by cases hq) (fun q hq => by cases hq)
        have hG3 := G1.out.trans (rcell_grown w1 h 0 (.slice none 0 0))
        refine ⟨hG3.trans (below_grown ((Below.refl _ _).alloc (Nat.le_refl _) _) R3.lt), ⟨_, _, _, R3.below ((Below.refl _ _).alloc (Nat.le_refl _) _)⟩, _, rfl, ?_⟩
        exact Owns.empty _ _ _ _ _ _
      | some ad =>
        by_cases hn0 : n = 0
        · subst hn0
          obtain rfl : k = 0 := by omega
          have hl0 : l1 = [] := List.eq_nil_of_length_eq_zero HLN.out
          have hif : ∀ (A B : Option Addr), (if c = 0 then A else B) = pkr c 0 A B := fun _ _ => rfl
          subst hl0
          go_wp2_with fail
          go_ret
          rw [HB.out]
          have R3 := (⟨heap_setCell_same _ _ _ _ _ _ R1.out.row, ⟨rfl, Nat.zero_le _, by unfold maxLen; omega, fun i hi => by omega, (by simp), fun e => by cases e⟩, (fun q _ hn => by omega), (fun q _ => .inr (by decide))⟩ : RRdr (w1.setCell ⟨h, 0, none⟩ (.slice (some ad) 0 c)) h (some ad) 0 c [] 0)
          have hG3 := G1.out.trans (rcell_grown w1 h 0 (.slice (some ad) 0 c))
          refine ⟨hG3.trans (below_grown ((Below.refl _ _).alloc (Nat.le_refl _) _) R3.lt), ⟨_, _, _, R3.below ((Below.refl _ _).alloc (Nat.le_refl _) _)⟩, _, rfl, ?_⟩
          exact Owns.empty _ _ _ _ _ _
        · obtain ⟨b, o, hbo, _⟩ := R1.out.rd.cell 0 (by omega)
          injection hbo with hbo
          subst hbo
          have hbh : b < h := R1.out.lo _ rfl (by omega)
          have hif : ∀ (A B : Option Addr), (if c = k then A else B) = pkr c k A B := fun _ _ => rfl
          go_wp2_with (at_builtin; refine app_all u8T u8I (by decide) rfl (.tmp 25) (.tmp 31) rfl _ w.heap.size _ [] rfl (Owns.empty _ _ _ _ _ _) _ _ _ (l1.take k) rfl (HRT.out.below ((Below.refl _ _).alloc (Nat.le_refl _) _)) (by simp; omega) (by simp; omega) ?_; intro x3 w3 ho3 hg3; obtain ⟨a3, k3, hx3⟩ := ho3.shapeN k (by rw [List.nil_append, List.length_take, HLN.out]; omega); subst hx3; have hb3 := hg3.fromEmpty; have R3 := Lib.hid (R1.out.below hb3); have O3 := Lib.hid ho3; have B3 := Lib.hid hb3; clear hb3 hg3 ho3 y0 y1 yf; obtain ⟨y0, y1, yf⟩ := R3.out.cells)
          go_ret
          rw [HB.out]
          have hG3 : w.grownBy w3 (some h) := G1.out.trans (below_grown B3.out R1.out.lt)
          refine ⟨hG3.trans (rcell_grown _ _ _ _), ⟨_, _, _, R3.out.setB (rd_pkr R3.out.rd k (by omega)) (fun q hq _ => by rw [pkr_block hq]; exact hbh) (fun q hq => pkr_spot hq)⟩, _, rfl, ?_⟩
          have ho := O3.out
          rw [List.nil_append] at ho
          exact ho.grown (rcell_grown w3 h 0 (.slice (pkr c k (some ⟨b, o, none⟩) (some ⟨b, o + k, none⟩)) (n - k) (c - k))) (fun g hg' e => by have h1 := (ho.at_base g hg').1; injection e with e; omega)
  · have HB : Hid (byt ⟨E, V, l1⟩ = ⟨E, [], l1⟩) := by show _ = _; unfold byt; rw [if_pos hE]
    have HE := Lib.hid hE
    clear hV hE
    go_enter Try.func24, Try.ntmps24
    go_wp2_with fail
    refine HC.out.mono ?_
    rintro e w1 ⟨hg, hr, V', rfl, _⟩
    rw [show decide ((⟨E, V, l1⟩ : Rd Int).e = 0) = false from decide_eq_false HE.out]
    have R1 := Lib.hid hr
    have G1 := Lib.hid hg
    clear hr hg
    go_wp2_with fail
    go_ret
    rw [HB.out]
    exact ⟨G1.out, R1.out, _, rfl, Owns.nil _ _ _ _⟩
def lst (T : Rd Int) : Rd (List Int) := if T.e ≠ 0 then ⟨T.e, [], T.l⟩ else rdInts T.v.toNat T.l
theorem lst_eq (e0 most : Int) (l : List Int) : rdFrom e0 [] l (rdList most l) = lst (rdFrom e0 0 l (rdBetween 0 most l)) := by
  by_cases h0 : e0 = 0
  · subst h0
    rw [rdFrom_ok, rdFrom_ok]
    rfl
  · rw [rdFrom_bad _ _ _ h0, rdFrom_bad _ _ _ h0]
    unfold lst
    rw [if_pos h0]
theorem accR_nil (k : Nat) (l : List Int) : accR [] (rdInts k l) = rdInts k l := by
  have := rdInts_z k l
  unfold accR
  generalize rdInts k l = q at *
  obtain ⟨e, v, l'⟩ := q
  by_cases he : e = 0
  · subst he
    rw [if_neg (by simp), List.nil_append]
  · rw [if_pos he]
    have h1 : v = [] := this he
    rw [h1]
theorem btw_hi {most V : Int} {T : Rd Int} {l : List Int} (hT : T.v ≤ 9223372036854775807) (h : btw 0 most T = ⟨0, V, l⟩) : V ≤ 9223372036854775807 := by
  unfold btw at h
  split at h
  · rename_i h1
    injection h with h2 _ _
    exact absurd h2 h1
  · split at h
    · injection h with h2 _ _
      cases h2
    · rw [h] at hT
      exact hT
set_option linter.unusedSimpArgs false in
set_option linter.unusedVariables false in
set_option maxRecDepth 100000 in
set_option maxHeartbeats 2000000 in
theorem rrList_any (h : Nat) (most : Int) (l : List Int) (e0 : Int) (w : World) (r : RRIn w h l e0) (hl : l.length ≤ 1000000) :
    Calls Try.prog 26 #[.pointer (some ⟨h, 0, none⟩), .int .i64 most] w (RREnd isL h (rdFrom e0 [] l (rdList most l)) w) := by
  rw [lst_eq]
  obtain ⟨⟨E, V, l1⟩, hT⟩ : ∃ T, rdFrom e0 0 l (rdBetween 0 most l) = T := ⟨_, rfl⟩
  have hbd : e0 = 0 → (rdInt l).v ≤ 9223372036854775807 := fun _ => (rdInt_bd r.wf).2
  have hV : E = 0 → 0 ≤ V ∧ V ≤ 9223372036854775807 := fun h0 => by
    have hT' := hT
    rw [btw_eq, h0] at hT'
    refine ⟨btw_pos hT', btw_hi ?_ hT'⟩
    by_cases hz : e0 = 0
    · subst hz
      rw [rdFrom_ok]
      exact hbd rfl
    · rw [rdFrom_bad _ _ _ hz]
      show (0 : Int) ≤ 9223372036854775807
      decide
  have hle : l1.length ≤ l.length := by
    have h1 : (rdFrom e0 0 l (rdBetween 0 most l)).l.length ≤ l.length := btw_len e0 0 most l
    rw [hT] at h1
    exact h1
  have HLE := Lib.hid (Nat.le_trans hle hl)
  have hcnt := rrcount_any h most l e0 w r
  rw [hT] at hcnt ⊢
  have HC := Lib.hid hcnt
  have hlt := r.lt
  clear hT hcnt hbd hle
  by_cases hE : E = 0
  · subst hE
    have hV1 := (hV rfl).1
    have hV2 := (hV rfl).2
    obtain ⟨k, rfl⟩ := Int.eq_ofNat_of_zero_le hV1
    clear hV hV1
    obtain ⟨T, hTT⟩ : ∃ T, lst ⟨0, (k : Int), l1⟩ = T := ⟨_, rfl⟩
    have hT2 : rdFrom 0 [] l1 (accR [] (rdInts k l1)) = T := by
      rw [rdFrom_ok, accR_nil, ← hTT]
      unfold lst
      rw [if_neg (by simp)]
      rfl
    rw [hTT]
    have HT2 := Lib.hid hT2
    clear hT2 hTT
    go_enter Try.func26, Try.ntmps26
    go_wp2_with fail
    refine HC.out.mono ?_
    rintro e w1 ⟨hg, hr, V', rfl, hv⟩
    obtain rfl : V' = (k : Int) := hv rfl
    rw [show decide ((⟨0, (k : Int), l1⟩ : Rd Int).e = 0) = true from rfl]
    replace hr : RRIn w1 h l1 0 := hr
    have R1 := Lib.hid hr
    have G1 := Lib.hid hg
    clear hr hg hv
    go_wp2_with fail
    go_loopw [6, 7, 8] (fun ok x i wr => ∃ (j : Nat) (acc l' : List Int) (e' : Int), j ≤ k ∧ i = .int .i64 j ∧ ok = .bool (decide (e' = 0)) ∧ Owns .i64 3 wr w.heap.size x acc ∧ RRIn wr h l' e' ∧ w.grownBy wr (some h) ∧ Hid (rdFrom e' [] l' (accR acc (rdInts (k - j) l')) = T) ∧ (e' = 0 → acc.length + l'.length ≤ 1000000) ∧ acc.length ≤ 1000001) (fun _ _ i _ => k - (intOf i).toNat)
    case atStart => exact ⟨0, [], l1, 0, by omega, rfl, rfl, Owns.nil _ _ _ _, R1.out, G1.out, HT2, fun _ => by rw [List.length_nil, Nat.zero_add]; exact HLE.out, by simp⟩
    case round =>
      clear R1 G1 HT2
      obtain ⟨j, acc, l', e', hj, rfl, rfl, ow, hr, hg, HT, hsum, hac⟩ := hrel
      obtain ⟨q, hq⟩ : ∃ q, acc.length = q := ⟨_, rfl⟩
      obtain ⟨ax, cx, rfl⟩ := ow.shapeN q hq
      have OW := Lib.hid ow
      have HQ := Lib.hid hq
      have HR := Lib.hid hr
      have HG := Lib.hid hg
      rw [hq] at hsum hac
      have HSUM := Lib.hid hsum
      have hsz := hg.size
      obtain ⟨a0, n0, c0, hr0⟩ := hr
      obtain ⟨y0, y1, yf⟩ := hr0.cells
      clear ow hq hg hr0 hsum
      by_cases h0 : e' = 0
      · subst h0
        rw [show decide ((0 : Int) = 0) = true from rfl]
        have hsum := HSUM.out rfl
        by_cases hp : j < k
        · obtain ⟨m, hm⟩ : ∃ m, k - j = m + 1 := ⟨k - j - 1, by omega⟩
          have hbd := rdInt_bd HR.out.wf
          clear y0 y1 yf
          go_wp2_with fail
          refine (rrInt_any h l' 0 wr HR.out).mono ?_
          rintro e w2 ⟨hg2, hr2, v, rfl, hv⟩
          rw [rdFrom_ok] at hr2 hv
          replace hv : v = .int .i64 (rdInt l').v := hv
          have hTs := HT.out
          obtain ⟨E2, hE2⟩ : ∃ E2, (rdInt l').e = E2 := ⟨_, rfl⟩
          have HG2 := Lib.hid (grown_trans HG.out hg2)
          have OW2 := Lib.hid (OW.out.grown hg2 (fun g hg' e => by have h1 := (OW.out.at_base g hg').1; injection e with e; omega))
          have hlt2 := hr2.lt
          have hsz2 := hg2.size
          by_cases hE0 : E2 = 0
          · subst hE0
            rw [rdFrom_ok, hm, acc_step hE2] at hTs
            have hsh := rdInt_len hE2
            obtain ⟨V2, hV2⟩ : ∃ V, (rdInt l').v = V := ⟨_, rfl⟩
            obtain ⟨l2, hl2⟩ : ∃ l2, (rdInt l').l = l2 := ⟨_, rfl⟩
            rw [hV2] at hv hbd hTs
            rw [hl2] at hr2 hsh hTs
            rw [hE2] at hr2
            subst hv
            have HTS := Lib.hid hTs
            have HR2 := Lib.hid hr2
            clear hTs hr2 hg2 hV2 hl2 hE2 HT
            go_wp2_with (at_builtin; refine app_one i64T3 i64I3 (by decide) rfl (.tmp 23) (.tmp 26) rfl _ w.heap.size _ acc rfl OW2.out _ rfl (WalkArith.wf_i64 hbd) (by rw [HQ.out]; omega) (by omega) ?_; intro x3 w3 ho3 hg3; have hr3 := HR2.out.grown hg3.1 (fun g hg' => by have h1 := (OW2.out.at_base g hg').1; omega); have HR3 := Lib.hid hr3; obtain ⟨a3, n3, c3, hr4⟩ := hr3; obtain ⟨y0, y1, yf⟩ := hr4.cells; clear hr4)
            have HG3 := Lib.hid (grown_more HG2.out hg3.1 (fun g hg' => (OW2.out.at_base g hg').1))
            go_roundw
            case rel => exact ⟨j + 1, acc ++ [V2], l2, 0, by omega, by go_num, rfl, ho3, HR3.out, HG3.out, by show rdFrom _ _ _ _ = _; rw [rdFrom_ok, show k - (j + 1) = m by omega]; exact HTS.out, fun _ => by rw [List.length_append, HQ.out]; simp; omega, by rw [List.length_append, HQ.out]; simp; omega⟩
            case measure => simp [intOf] <;> omega
          · have d0 : decide (E2 = 0) = false := decide_eq_false hE0
            have d9 : (E2 == 0) = false := by simpa using hE0
            obtain ⟨V2, hV2⟩ : ∃ V, (rdInt l').v = V := ⟨_, rfl⟩
            obtain ⟨l2, hl2⟩ : ∃ l2, (rdInt l').l = l2 := ⟨_, rfl⟩
            rw [rdFrom_ok, hm, rdInts_bad (by rw [hE2]; exact hE0)] at hTs
            unfold accR at hTs
            rw [if_pos (show (rdInt l').e ≠ 0 by rw [hE2]; exact hE0), hE2, hl2] at hTs
            rw [hV2] at hv hbd
            rw [hE2, hl2] at hr2
            subst hv
            have HTS := Lib.hid hTs
            have HR2 := Lib.hid hr2
            have HE0 := Lib.hid hE0
            clear hTs hr2 hg2 hV2 hl2 hE2 HT hE0
            go_wp2_with (at_builtin; refine app_one i64T3 i64I3 (by decide) rfl (.tmp 23) (.tmp 26) rfl _ w.heap.size _ acc rfl OW2.out _ rfl (WalkArith.wf_i64 hbd) (by rw [HQ.out]; omega) (by omega) ?_; intro x3 w3 ho3 hg3; have hr3 := HR2.out.grown hg3.1 (fun g hg' => by have h1 := (OW2.out.at_base g hg').1; omega); have HR3 := Lib.hid hr3; obtain ⟨a3, n3, c3, hr4⟩ := hr3; obtain ⟨y0, y1, yf⟩ := hr4.cells; clear hr4)
            have HG3 := Lib.hid (grown_more HG2.out hg3.1 (fun g hg' => (OW2.out.at_base g hg').1))
            go_roundw
            case rel => exact ⟨j + 1, acc ++ [V2], l2, E2, by omega, by go_num, by first | rfl | rw [d0] | (rw [decide_eq_false HE0.out]), ho3, HR3.out, HG3.out, by show rdFrom _ _ _ _ = _; rw [rdFrom_bad _ _ _ HE0.out]; exact HTS.out, fun h => absurd h HE0.out, by rw [List.length_append, HQ.out]; simp; omega⟩
            case measure => simp [intOf] <;> omega
        · obtain rfl : j = k := by omega
          have hTs := HT.out
          rw [rdFrom_ok, Nat.sub_self] at hTs
          unfold accR rdInts at hTs
          simp at hTs
          subst hTs
          go_wp2_with fail
          go_ret
          exact ⟨HG.out, HR.out, _, rfl, OW.out⟩
      · have d0 : decide (e' = 0) = false := decide_eq_false h0
        have d9 : (e' != 0) = true := by simpa using h0
        have hTs := HT.out
        rw [rdFrom_bad _ _ _ h0] at hTs
        subst hTs
        rw [d0]
        clear HSUM h0
        go_wp2_with fail
        go_ret
        exact ⟨HG.out, HR.out, _, rfl, Owns.nil _ _ _ _⟩
  · have HB : Hid (lst ⟨E, V, l1⟩ = ⟨E, [], l1⟩) := by show _ = _; unfold lst; rw [if_pos hE]
    have HE := Lib.hid hE
    have d9 : (E != 0) = true := by simpa using hE
    clear hV hE
    go_enter Try.func26, Try.ntmps26
    go_wp2_with fail
    refine HC.out.mono ?_
    rintro e w1 ⟨hg, hr, V', rfl, _⟩
    rw [show decide ((⟨E, V, l1⟩ : Rd Int).e = 0) = false from decide_eq_false HE.out]
    replace hr : RRIn w1 h l1 E := hr
    have R1 := Lib.hid hr
    have G1 := Lib.hid hg
    obtain ⟨a0, n0, c0, hr0⟩ := hr
    obtain ⟨y0, y1, yf⟩ := hr0.cells
    clear hg hr0
    go_wp2_with fail
    go_loopw [6, 7, 8] (fun ok x i wr => ok = .bool false ∧ x = .slice none 0 0 ∧ i = .int .i64 0 ∧ Hid (w1 = wr)) (fun _ _ _ _ => 0)
    case atStart => exact ⟨rfl, rfl, rfl, rfl⟩
    case round =>
      obtain ⟨rfl, rfl, rfl, hww⟩ := hrel
      obtain rfl := hww.out
      go_wp2_with fail
      go_ret
      rw [HB.out]
      exact ⟨G1.out, R1.out, _, rfl, Owns.nil _ _ _ _⟩
end Go.Proofs.Ytnlhpfcepbmbfaa
