/- lz's Check. -/
import Derived.Test.YtfoabnoolmeoiaaRLz
namespace Go.Proofs.Ytfoabnoolmeoiaa
open Go.RowKit
set_option maxRecDepth 100000 in
set_option maxHeartbeats 1000000 in
theorem check_any (a : Option Addr) (n c : Nat) (x : List Int) (most M : Int) (w : World) (r : RdAt .u8 w a n c x) (hM : max most 0 = M) (hm : most ≤ 2097152) :
    Calls Try.prog 11 #[.slice a n c, .int .i64 most] w fun e w' => e = .returned (.tuple #[.int .i64 ((outT (allT M x)).length : Nat), .int .i64 (allT M x).e]) ∧ Below w.heap.size w w' := by
  have R := Lib.hid r
  have HM := Lib.hid hM
  clear r hM
  go_enter Try.func11, Try.ntmps11
  go_wp2_with fail
  refine (unpack_any _ _ _ x most M _ R.out HM.out hm).mono ?_
  rintro e w1 ⟨⟨v, hee, ho⟩, hb⟩
  obtain ⟨E, hE⟩ : ∃ E, (allT M x).e = E := ⟨_, rfl⟩
  rw [hE] at hee
  subst hee
  have HE := Lib.hid hE
  obtain ⟨l, hl⟩ : ∃ l, outT (allT M x) = l := ⟨_, rfl⟩
  rw [hl] at ho
  have HL := Lib.hid hl
  obtain ⟨q, hq⟩ : ∃ q, l.length = q := ⟨_, rfl⟩
  obtain ⟨av, cv, rfl⟩ := ho.shapeN q hq
  have HQ := Lib.hid hq
  clear hq hl ho hE
  go_wp2_with fail
  go_ret2
  exact ⟨by rw [HE.out, HL.out, HQ.out]; rfl, hb⟩
end Go.Proofs.Ytfoabnoolmeoiaa
