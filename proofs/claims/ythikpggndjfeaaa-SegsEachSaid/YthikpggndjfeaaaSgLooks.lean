/- segs: what both tables tell. -/
import Derived.Test.YthikpggndjfeaaaSgStep
namespace Go.Proofs.Ythikpggndjfeaaa
open Go.RowKit
set_option linter.unusedSimpArgs false in
set_option linter.unusedVariables false in
set_option maxRecDepth 100000 in
set_option maxHeartbeats 2000000 in
theorem looks_any (d mb rd g : Nat) (L : List Ent) (k : Int) (w : World) (ht : TbIn w d mb L) (hr : RtIn w rd g L) (hk : (Lit.int .i64 k).wf = true) :
    Calls Try.prog 25 #[.pointer (some ⟨d, 0, none⟩), .pointer (some ⟨rd, 0, none⟩), .int .i64 k] w fun e w' => e = .returned (.bool true) ∧ Below w.heap.size w w' := by
  have HT := Lib.hid ht
  have HR := Lib.hid hr
  have HK := Lib.hid hk
  clear ht hr hk
  go_enter Try.func25, Try.ntmps25
  go_wp2_with fail
  go_loopw [7] (fun z wr => ∃ s : Int, -1 ≤ s ∧ s ≤ 5 ∧ z = .int .i64 s ∧ Hid (Below w.heap.size w wr)) (fun z _ => (5 - intOf z).toNat)
  case atStart => exact ⟨-1, by omega, by omega, rfl, Lib.hid (Below.refl _ _)⟩
  case round =>
    obtain ⟨s, hs1, hs2, rfl, B⟩ := hrel
    by_cases h4 : s ≤ 4
    · have d4 : decide (s ≤ 4) = true := decide_eq_true h4
      have wr1 : IntKind.i64.wrap (s + 1) = s + 1 := IntWalk.i64_in _ (by omega)
      go_wp2_with fail
      refine (count_any d mb L s wr (HT.out.below B.out)).mono ?_
      rintro e w2 ⟨rfl, hb⟩
      have B2 := Lib.hid (Below.call B.out hb)
      clear hb
      go_wp2_with fail
      refine (refcount_any rd g L s w2 (HR.out.below B2.out)).mono ?_
      rintro e w' ⟨rfl, rfl⟩
      have dd : (((cntL L s : Nat) : Int) != ((cntL L s : Nat) : Int)) = false := by simp
      go_wp2_with fail
      go_roundw
      case rel => exact ⟨s + 1, by omega, by omega, rfl, B2⟩
      case measure => simp [intOf] <;> omega
    · obtain rfl : s = 5 := by omega
      go_wp2_with fail
      refine (state_any d mb L k wr (HT.out.below B.out)).mono ?_
      rintro e w' ⟨rfl, rfl⟩
      go_wp2_with fail
      refine (refstate_any rd g L k wr (HR.out.below B.out)).mono ?_
      rintro e w' ⟨rfl, rfl⟩
      go_wp2_with fail
      refine (used_any d mb L k wr (HT.out.below B.out) HK.out).mono ?_
      rintro e w' ⟨rfl, rfl⟩
      go_wp2_with fail
      refine (refused_any rd g L k wr (HR.out.below B.out)).mono ?_
      rintro e w' ⟨rfl, rfl⟩
      go_wp2_with fail
      go_ret
      exact ⟨rfl, B.out⟩
end Go.Proofs.Ythikpggndjfeaaa
