/- How much two machines differ (Delta). How much two machines differ, plainly: the same from both sides; nothing where they are the same; at most what both weigh. A fork, plainly: how much it weighs; what another process does leaves one as it was. -/
import Derived.Test.YtnbjodoajfkekaaGreatMu0
import Derived.Test.YtnbjodoajfkekaaGreatMp10
import Derived.Test.YtnbjodoajfkekaaGreatMp11
import Derived.WalkKit
import Derived.ProofKit
import Derived.BigQuiet
import Derived.Deep.QuietTactic
import Derived.Lib.Hide
import Derived.RegionTactic
import Derived.Test.YtnbjodoajfkekaaGreatMu24
namespace Go.Proofs.YtnbjodoajfkekaaGreat
open Go.RowKit
set_option linter.unusedSimpArgs false
section
variable {No : Nat → Prop} {h h2 : McH} {st st2 : Mc} {w : World}
end
section
variable {st st2 : Mc}
def wOne (st : Mc) (k : Nat) : Int := if st.has (k : Int) = true then oneW st (k : Int) else 0
def wsum (st : Mc) : Nat → Int
 | 0 => 0
 | k + 1 => wsum st k + wOne st k
theorem wsum_pids (h : McOk st) : ∀ k, k ≤ st.pr → ((pidsK st.v k).map (oneW st)).sum = wsum st k
 | 0, _ => rfl
 | k + 1, hk => by
  have ih := wsum_pids h k (by omega)
  have hh : st.has (k : Int) = st.v.getLsbD k := by
   have := h.prI
   unfold Mc.has hasB
   have e : decide ((0 : Int) ≤ (k : Int) ∧ (k : Int) < st.c.procs) = true := decide_eq_true ⟨by omega, by omega⟩
   simp
   omega
  rw [pidsK, wsum, wOne, hh]
  by_cases hb : st.v.getLsbD k = true
  ·rw [if_pos hb, if_pos hb, List.map_append, sum_append, ih]
   simp
  ·rw [if_neg hb, if_neg hb, ih]
   omega
theorem wsum_more (h : McOk st) : ∀ j, wsum st (st.pr + j) = wsum st st.pr
 | 0 => rfl
 | j + 1 => by
  rw [← Nat.add_assoc, wsum, wsum_more h j, wOne, if_neg]
  ·omega
  ·unfold Mc.has hasB
   have := h.prI
   simp
   omega
theorem weight_wsum (h : McOk st) : weightM st = wsum st 64 := by
 have h1 := h.prL
 have h2 := wsum_more h (64 - st.pr)
 rw [show st.pr + (64 - st.pr) = 64 by omega] at h2
 rw [h2, ← wsum_pids h st.pr (Nat.le_refl _)]; rfl
end
end Go.Proofs.YtnbjodoajfkekaaGreat
