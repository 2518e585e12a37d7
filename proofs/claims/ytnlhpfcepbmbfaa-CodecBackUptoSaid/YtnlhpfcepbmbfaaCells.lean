/- A bit of a row of the call's own is turned. -/
import Derived.Test.YtnlhpfcepbmbfaaBurstLaw
import Derived.Test.YtnlhpfcepbmbfaaFieldLaw
import Derived.Test.YtnlhpfcepbmbfaaBitTest
import Derived.Test.YtnlhpfcepbmbfaaU8
import Derived.Test.YtnlhpfcepbmbfaaOwnCell
namespace Go.Proofs.Ytnlhpfcepbmbfaa
open Go.RowKit
theorem set_tog {w : World} {base g n c : Nat} {l : List Int} (h : Owns .u8 5 w base (.slice (some ⟨g, 0, none⟩) n c) l) (j : Nat) (hb : Bytes l) :
    Owns .u8 5 (w.setCell ⟨g, j / 8, none⟩ (.int .u8 (bits .xor .u8 (nth l (j / 8)) (2 ^ (j % 8))))) base (.slice (some ⟨g, 0, none⟩) n c) (tog l j) :=
  h.stored _ _ (WalkArith.wf_u8 (tog_bd hb j))
theorem pow_u8 (j : Nat) : (2 : Int) ^ (j % 8) % 256 = 2 ^ (j % 8) := by
  obtain ⟨e, hlt⟩ := pow8 j
  rw [e]
  exact Int.emod_eq_of_lt (Int.natCast_nonneg _) (Int.ofNat_lt.2 hlt)
theorem shr_three (m : Nat) : (m : Int).fdiv (2 ^ min (Int.toNat 3) IntKind.i64.bits) = ((m / 8 : Nat) : Int) := by
  rw [show (2 : Int) ^ min (Int.toNat 3) IntKind.i64.bits = 8 from by decide, Int.fdiv_eq_ediv_of_nonneg _ (by omega)]
  omega

end Go.Proofs.Ytnlhpfcepbmbfaa
