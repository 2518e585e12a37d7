/- The reference's writers of records: Int, Bytes, List. -/
import Derived.Test.YtnlhpfcepbmbfaaVar
import Derived.Test.YtnlhpfcepbmbfaaZig
import Derived.Test.YtnlhpfcepbmbfaaWList
namespace Go.Proofs.Ytnlhpfcepbmbfaa
open Go.RowKit
set_option linter.unusedSimpArgs false in
set_option linter.unusedVariables false in
set_option maxRecDepth 100000 in
set_option maxHeartbeats 2000000 in
theorem rcint_any (x0 : Value) (l : List Int) (v : Int) (w : World) (base : Nat) (h : Owns .u8 5 w base x0 l) (hbase : base ≤ w.heap.size) (hn : l.length ≤ 1000000000) (v1 : -9223372036854775808 ≤ v) (v2 : v ≤ 9223372036854775807) :
    Calls Try.prog 52 #[x0, .int .i64 v] w fun e w' => ∃ r, e = .returned r ∧ Owns .u8 5 w' base r (l ++ varF 9 (zigI v)) ∧ Grows w x0 w' r := by
  have hz := zigI_bd v v1 v2
  obtain ⟨q, hq⟩ : ∃ q, l.length = q := ⟨_, rfl⟩
  obtain ⟨a, c, rfl⟩ := h.shapeN q hq
  have H := Lib.hid h
  have HQ := Lib.hid hq
  clear h hq
  go_enter Try.func52, Try.ntmps52
  go_wp2_with (go_at_call 71; refine (rzig_any v _ v1 v2).mono ?_; rintro e w1 ⟨rfl, rfl⟩)
  refine (rvar_any _ l (zigI v) _ base H.out hbase hn hz.1 hz.2).mono ?_
  rintro e w1 ⟨r, rfl, ho, hg⟩
  obtain ⟨q1, hq1⟩ : ∃ q1, (l ++ varF 9 (zigI v)).length = q1 := ⟨_, rfl⟩
  obtain ⟨a1, c1, rfl⟩ := ho.shapeN q1 hq1
  have HO := Lib.hid ho
  have HG := Lib.hid hg
  clear ho hg hq1
  go_wp2_with fail
  go_ret
  exact ⟨_, rfl, HO.out, HG.out⟩
set_option linter.unusedSimpArgs false in
set_option linter.unusedVariables false in
set_option maxRecDepth 100000 in
set_option maxHeartbeats 2000000 in
theorem rcbytes_any (x0 : Value) (l : List Int) (a : Option Addr) (n c : Nat) (lb : List Int) (w : World) (base : Nat) (h : Owns .u8 5 w base x0 l) (hbase : base ≤ w.heap.size) (hn : l.length ≤ 900000) (hn2 : n ≤ 900000) (hr : RdAt .u8 w a n c lb) (hne : ∀ x, a = some x → 0 < n → some x.block ≠ room x0) :
    Calls Try.prog 53 #[x0, .slice a n c] w fun e w' => ∃ r, e = .returned r ∧ Owns .u8 5 w' base r (l ++ varF 9 (zigI n) ++ lb) ∧ Grows w x0 w' r := by
  obtain ⟨q, hq⟩ : ∃ q, l.length = q := ⟨_, rfl⟩
  obtain ⟨ax, cx, rfl⟩ := h.shapeN q hq
  have H := Lib.hid h
  have R := Lib.hid hr
  have HL := Lib.hid hr.len
  have hvl := (varF_len 9 (zigI n)).2
  have hll : (l ++ varF 9 (zigI n)).length ≤ 900010 := by rw [List.length_append]; omega
  have HQ := Lib.hid hq
  have HNE := Lib.hid hne
  clear h hq hr hne
  go_enter Try.func53, Try.ntmps53
  go_wp2_with fail
  refine (rcint_any _ l n w base H.out hbase (by omega) (by omega) (by omega)).mono ?_
  rintro e w1 ⟨r, rfl, ho, hg⟩
  obtain ⟨q1, hq1⟩ : ∃ q1, (l ++ varF 9 (zigI n)).length = q1 := ⟨_, rfl⟩
  obtain ⟨a1, c1, rfl⟩ := ho.shapeN q1 hq1
  rw [hq1] at hll
  have HQ1 := Lib.hid hq1
  have HO := Lib.hid ho
  have HG := Lib.hid hg
  have R1 := Lib.hid (R.out.grownN hg.1 (fun x hx hp e => HNE.out x hx hp e))
  have hsz := hg.1.size
  clear ho hg hq1
  go_wp2_with (at_builtin; refine app_all u8T u8I (by decide) rfl (.tmp 8) (.tmp 9) rfl _ base _ _ rfl HO.out _ _ _ lb rfl R1.out (by rw [HQ1.out]; omega) (by omega) ?_; intro v2 w2 ho2 hg2; obtain ⟨a2, k2, hv2⟩ := ho2.shapeN (q1 + n) (by rw [List.length_append, HQ1.out, HL.out]); subst hv2)
  go_ret
  exact ⟨_, rfl, ho2, HG.out.trans hg2⟩
set_option linter.unusedSimpArgs false in
set_option linter.unusedVariables false in
set_option maxRecDepth 100000 in
set_option maxHeartbeats 2000000 in
theorem rclist_any (x0 : Value) (l : List Int) (a : Option Addr) (n c : Nat) (L : List Int) (w : World) (base : Nat) (h : Owns .u8 5 w base x0 l) (hbase : base ≤ w.heap.size) (hn : l.length ≤ 900000) (hn2 : n ≤ 90000) (hr : RdAt .i64 w a n c L) (hne : ∀ x, a = some x → 0 < n → some x.block ≠ room x0) :
    Calls Try.prog 55 #[x0, .slice a n c] w fun e w' => ∃ r, e = .returned r ∧ Owns .u8 5 w' base r (l ++ varF 9 (zigI n) ++ listF L) ∧ Grows w x0 w' r := by
  obtain ⟨q, hq⟩ : ∃ q, l.length = q := ⟨_, rfl⟩
  obtain ⟨ax, cx, rfl⟩ := h.shapeN q hq
  have H := Lib.hid h
  have R := Lib.hid hr
  have hvl := (varF_len 9 (zigI n)).2
  have HNE := Lib.hid hne
  clear h hq hr hne
  go_enter Try.func55, Try.ntmps55
  go_wp2_with fail
  refine (rcint_any _ l n w base H.out hbase (by omega) (by omega) (by omega)).mono ?_
  rintro e w1 ⟨r, rfl, ho, hg⟩
  obtain ⟨q1, hq1⟩ : ∃ q1, (l ++ varF 9 (zigI n)).length = q1 := ⟨_, rfl⟩
  obtain ⟨a1, c1, rfl⟩ := ho.shapeN q1 hq1
  have HO := Lib.hid ho
  have HG := Lib.hid hg
  clear ho hg hq1
  go_wp2_with fail
  go_loopw [0, 5] (fun x i wr => ∃ (k : Nat) (ak : Option Addr) (nk ck : Nat), k ≤ n ∧ i = .int .i64 k ∧ x = .slice ak nk ck ∧ Hid (Owns .u8 5 wr base (.slice ak nk ck) (l ++ varF 9 (zigI n) ++ listF (L.take k))) ∧ Hid (Grows w (.slice ax q cx) wr (.slice ak nk ck))) (fun _ i _ => n - (intOf i).toNat)
  case atStart => exact ⟨0, _, _, _, by omega, rfl, rfl, by rw [List.take_zero, show listF [] = [] from rfl, List.append_nil]; exact HO.out, HG.out⟩
  case round =>
    clear HO HG
    obtain ⟨k, ak, nk, ck, hk, rfl, rfl, O2, G2⟩ := hrel
    by_cases hkn : k < n
    · obtain ⟨b, o, rfl, hc⟩ := (R.out.grownN G2.out.1 (fun x hx hp e => HNE.out x hx hp e)).cell k hkn
      have hx := R.out.wfAt k hkn
      have hxb := wf_i64_bd hx
      obtain ⟨x, hxx⟩ : ∃ x, nth L k = x := ⟨_, rfl⟩
      have hLk : L.take (k + 1) = L.take k ++ [x] := by
        have hl := R.out.len
        rw [List.take_add_one, List.getElem?_eq_getElem (by omega), ← hxx, nth_eq (by omega)]
        rfl
      rw [hxx] at hc hxb
      have HLK := Lib.hid hLk
      have hlen : (l ++ varF 9 (zigI n) ++ listF (L.take k)).length ≤ 1000000000 := by
        have h1 := listF_len (L.take k)
        rw [List.length_take] at h1
        rw [List.length_append, List.length_append]
        omega
      have HLEN := Lib.hid hlen
      have hb2 := Nat.le_trans hbase G2.out.1.size
      clear hx hxx hLk hlen
      go_wp2_with fail
      refine (rcint_any _ _ x wr base O2.out hb2 HLEN.out hxb.1 hxb.2).mono ?_
      rintro e w3 ⟨r, rfl, ho, hg⟩
      obtain ⟨a3, c3, hr3⟩ := ho.shape
      obtain ⟨n3, hn3⟩ : ∃ n3, (l ++ varF 9 (zigI n) ++ listF (L.take k) ++ varF 9 (zigI x)).length = n3 := ⟨_, rfl⟩
      rw [hn3] at hr3
      subst hr3
      have O3 : Hid (Owns .u8 5 w3 base (.slice a3 n3 c3) (l ++ varF 9 (zigI n) ++ listF (L.take (k + 1)))) := by
        show Owns _ _ _ _ _ _
        rw [HLK.out, listF_snoc, ← List.append_assoc]
        exact ho
      have G3 := Lib.hid (G2.out.trans hg)
      clear ho hg hn3
      go_wp2_with fail
      go_roundw
      case rel => exact ⟨k + 1, a3, n3, c3, by omega, by go_num, rfl, O3, G3⟩
      case measure => simp [intOf] <;> omega
    · obtain rfl : k = n := by omega
      go_wp2_with fail
      go_ret
      have h9 := O2.out
      rw [List.take_of_length_le (by rw [R.out.len]; omega)] at h9
      exact ⟨_, rfl, h9, G2.out⟩
end Go.Proofs.Ytnlhpfcepbmbfaa
