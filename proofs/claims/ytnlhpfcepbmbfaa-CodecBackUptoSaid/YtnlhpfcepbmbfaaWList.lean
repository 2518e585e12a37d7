/- The contract of codec's Writer's List. -/
import Derived.Test.YtnlhpfcepbmbfaaWriterI
import Derived.Lib.Hide
namespace Go.Proofs.Ytnlhpfcepbmbfaa
open Go.RowKit
def listF : List Int → List Int
  | [] => []
  | x :: r => varF 9 (zigI x) ++ listF r
theorem listF_snoc (l : List Int) (x : Int) : listF (l ++ [x]) = listF l ++ varF 9 (zigI x) := by
  induction l with
  | nil => simp [listF]
  | cons y r ih => simp only [List.cons_append, listF, ih, List.append_assoc]
theorem listF_len (l : List Int) : (listF l).length ≤ 10 * l.length := by
  induction l with
  | nil => simp [listF]
  | cons y r ih =>
    have := (varF_len 9 (zigI y)).2
    simp only [listF, List.length_append, List.length_cons]
    omega
set_option linter.unusedSimpArgs false in
set_option linter.unusedVariables false in
set_option maxRecDepth 100000 in
set_option maxHeartbeats 1000000 in
theorem wlist_any (h : Nat) (v : Value) (l : List Int) (a : Option Addr) (n c : Nat) (L : List Int) (w : World) (ho : VarAt .u8 92 5 w h v l) (hl : l.length + 10 * n ≤ 900000) (hr : RdAt .i64 w a n c L) (hne : ∀ x, a = some x → 0 < n → x.block ≠ h ∧ some x.block ≠ room v) :
    Calls Try.prog 54 #[.pointer (some ⟨h, 0, none⟩), .slice a n c] w fun e w' => e = .returned (.pointer (some ⟨h, 0, none⟩)) ∧ (∃ v', VarAt .u8 92 5 w' h v' (l ++ varF 9 (zigI n) ++ listF L) ∧ NewRoom w v v') ∧ Spared h (room v) w w' := by
  have hvl := (varF_len 9 (zigI n)).2
  have R := Lib.hid hr
  have HNE := Lib.hid hne
  have hn : n ≤ 90000 := by omega
  clear hr hne
  go_enter Try.func54, Try.ntmps54
  go_wp2_with fail
  refine (wint_any h v l n w ho (by omega) (by omega) (by omega)).mono ?_
  rintro e w1 ⟨rfl, ⟨v1, ho1, hn1⟩, hs1⟩
  have O1 := Lib.hid ho1
  have N1 := Lib.hid hn1
  have S1 := Lib.hid hs1
  clear ho1 hn1 hs1
  go_wp2_with fail
  go_loopw [13] (fun i wr => ∃ (k : Nat) (v' : Value), k ≤ n ∧ i = .int .i64 k ∧ Hid (VarAt .u8 92 5 wr h v' (l ++ varF 9 (zigI n) ++ listF (L.take k))) ∧ Hid (NewRoom w v v') ∧ Hid (Spared h (room v) w wr)) (fun i _ => n - (intOf i).toNat)
  case atStart => exact ⟨0, v1, by omega, rfl, by rw [List.take_zero, show listF [] = [] from rfl, List.append_nil]; exact O1.out, N1, S1⟩
  case round =>
    clear O1 N1 S1
    obtain ⟨k, v', hk, rfl, O2, N2, S2⟩ := hrel
    by_cases hkn : k < n
    · obtain ⟨b, o, rfl, hc⟩ := (R.out.sparedN S2.out HNE.out).cell k hkn
      have hx := R.out.wfAt k hkn
      have hxb := wf_i64_bd hx
      obtain ⟨x, hxx⟩ : ∃ x, nth L k = x := ⟨_, rfl⟩
      have hLk : L.take (k + 1) = L.take k ++ [x] := by
        have hl := R.out.len
        rw [List.take_add_one, List.getElem?_eq_getElem (by omega), ← hxx, nth_eq (by omega)]
        rfl
      rw [hxx] at hc hxb
      have HLK := Lib.hid hLk
      have hlen : (l ++ varF 9 (zigI n) ++ listF (L.take k)).length ≤ 1000000 := by
        have h1 := listF_len (L.take k)
        rw [List.length_take] at h1
        rw [List.length_append, List.length_append]
        omega
      have HLEN := Lib.hid hlen
      clear hx hxx hLk hlen
      go_wp2_with fail
      refine (wint_any h v' _ x wr O2.out HLEN.out hxb.1 hxb.2).mono ?_
      rintro e w3 ⟨rfl, ⟨v3, ho3, hn3⟩, hs3⟩
      have O3 : Hid (VarAt .u8 92 5 w3 h v3 (l ++ varF 9 (zigI n) ++ listF (L.take (k + 1)))) := by
        show VarAt _ _ _ _ _ _ _
        rw [HLK.out, listF_snoc, ← List.append_assoc]
        exact ho3
      have N3 := Lib.hid (N2.out.trans S2.out.size hn3)
      have S3 := Lib.hid (S2.out.trans N2.out hs3)
      clear ho3 hn3 hs3
      go_wp2_with fail
      go_roundw
      case rel => exact ⟨k + 1, v3, by omega, by go_num, O3, N3, S3⟩
      case measure => simp [intOf] <;> omega
    · obtain rfl : k = n := by omega
      go_wp2_with fail
      go_ret
      have h9 := O2.out
      rw [List.take_of_length_le (by rw [R.out.len]; omega)] at h9
      exact ⟨rfl, ⟨v', h9, N2.out⟩, S2.out⟩
end Go.Proofs.Ytnlhpfcepbmbfaa
