/- The contract of codec's Writer's Bytes. -/
import Derived.Test.YtnlhpfcepbmbfaaWriterI
namespace Go.Proofs.Ytnlhpfcepbmbfaa
open Go.RowKit
set_option maxRecDepth 100000 in
set_option maxHeartbeats 1000000 in
theorem wbytes_any (h : Nat) (v : Value) (l : List Int) (a : Option Addr) (n c : Nat) (lb : List Int) (w : World) (ho : VarAt .u8 92 5 w h v l) (hl : l.length + n ≤ 900000) (hr : RdAt .u8 w a n c lb) (hne : ∀ x, a = some x → 0 < n → x.block ≠ h ∧ some x.block ≠ room v) :
    Calls Try.prog 31 #[.pointer (some ⟨h, 0, none⟩), .slice a n c] w fun e w' => e = .returned (.pointer (some ⟨h, 0, none⟩)) ∧ (∃ v', VarAt .u8 92 5 w' h v' (l ++ varF 9 (zigI n) ++ lb) ∧ NewRoom w v v') ∧ Spared h (room v) w w' := by
  have hvl := (varF_len 9 (zigI n)).2
  have hll : (l ++ varF 9 (zigI n)).length ≤ 900010 := by rw [List.length_append]; omega
  have HL := Lib.hid hr.len
  go_enter Try.func31, Try.ntmps31
  go_wp2_with fail
  refine (wint_any h v l n w ho (by omega) (by omega) (by omega)).mono ?_
  rintro e w1 ⟨rfl, ⟨v1, ho1, hn1⟩, hs1⟩
  have hr1 := hr.sparedN hs1 hne
  have hrow := ho1.row
  have hown := ho1.own
  have hlt := ho1.lt
  generalize hl1 : l ++ varF 9 (zigI n) = l1 at *
  have HL1 := Lib.hid hl1
  clear hl1
  obtain ⟨q, hq⟩ : ∃ q, l1.length = q := ⟨_, rfl⟩
  rw [hq] at hll
  have HQ := Lib.hid hq
  obtain ⟨av, cv, rfl⟩ := hown.shapeN q hq
  obtain ⟨c0, cf⟩ := row_cell hrow
  have HR := Lib.hid hrow
  have HN := Lib.hid (room_ne hown)
  clear hq hrow ho1 hr
  go_wp2_with (at_builtin; refine app_all u8T u8I (by decide) rfl (.tmp 13) (.tmp 14) rfl _ (h + 1) _ l1 rfl hown _ _ _ lb rfl hr1 (by rw [HQ.out]; omega) hlt ?_; intro v2 w2 ho2 hg2; obtain ⟨a2, k2, rfl⟩ := ho2.shapeN (q + n) (by rw [List.length_append, HQ.out, HL.out]); have hr2 := grown_row HR.out hg2.1 HN.out; obtain ⟨c2, cf2⟩ := row_cell hr2; have HR2 := Lib.hid hr2; clear hr2)
  go_ret
  rw [HL1.out]
  refine ⟨rfl, ⟨_, VarAt.store HR2.out ho2, hn1.trans hs1.size hg2.2⟩, ?_⟩
  exact hs1.trans hn1 (((Spared.refl _ _ _).row hg2.1).at (store_grown _ _ _))
end Go.Proofs.Ytnlhpfcepbmbfaa
