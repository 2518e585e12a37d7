/- disk: what was flushed outlasts a cut: the plain law. -/
import Derived.Test.YtpgncmoagmkcmaaDkData
namespace Go.Proofs.Ytpgncmoagmkcmaa
open Go.RowKit
theorem settle_mem (κ : Nat → Bool) : ∀ (p : List (Int × List Int)) (i : Nat) (K : List (List Int)) (s : Nat) (x : List Int), (settleK κ i p K)[s]? = some x → K[s]? = some x ∨ ∃ t, t.toNat = s ∧ (t, x) ∈ p
  | [], _, _, _, _, h => .inl h
  | (t, b) :: r, i, K, s, x, h => by
    rw [settleK] at h
    rcases settle_mem κ r (i + 1) _ s x h with h1 | ⟨u, h1, h2⟩
    · split at h1
      · rw [List.getElem?_set] at h1
        split at h1
        · rename_i e
          split at h1
          · injection h1 with h1
            exact .inr ⟨t, e, by rw [← h1]; simp⟩
          · cases h1
        · exact .inl h1
      · exact .inl h1
    · exact .inr ⟨u, h1, List.mem_cons_of_mem _ h2⟩
/-- A disk of eight sectors of 64 bytes, the power on, nothing armed, K kept; its pending writes are of the acts. -/
structure OutI (L : List ActP) (k : Nat) (c : Int) (K : List (List Int)) (st : Dk) : Prop where
  off : st.off = false
  armed : st.armed = 0
  size : st.size = 64
  kept : st.kept = K
  len : K.length = 8
  reads : st.reads = 0
  writes : 0 ≤ st.writes ∧ st.writes ≤ c + k
  few : st.pend.length ≤ k
  mem : ∀ q ∈ st.pend, 0 ≤ q.1 ∧ q.1 < 8 ∧ ∃ A ∈ L, q = (A.sec, dataL A 64)
theorem outI_write {L : List ActP} {k : Nat} {c : Int} {K : List (List Int)} {st : Dk} (h : OutI L k c K st) {A : ActP} (hA : A ∈ L) : OutI L (k + 1) c K (wrS st A.sec (dataL A 64)) := by
  unfold wrS
  rw [h.off]
  by_cases hf : fitW st A.sec (dataL A 64) = false
  · rw [if_neg (by decide), if_pos hf]
    exact ⟨h.off, h.armed, h.size, h.kept, h.len, h.reads, ⟨h.writes.1, by have := h.writes.2; omega⟩, by have := h.few; omega, h.mem⟩
  · rw [if_neg (by decide), if_neg hf, if_neg (by rw [h.armed]; decide)]
    have hf1 : fitW st A.sec (dataL A 64) = true := by simpa using hf
    unfold fitW at hf1
    simp only [Bool.and_eq_true, decide_eq_true_eq] at hf1
    have h8 : st.kept.length = 8 := by rw [h.kept]; exact h.len
    refine ⟨h.off, ?_, h.size, h.kept, h.len, h.reads, ⟨?_, ?_⟩, ?_, fun q hq => ?_⟩
    · show (if st.armed = 0 then 0 else st.armed - 1) = 0
      rw [if_pos h.armed]
    · show 0 ≤ st.writes + 1
      have := h.writes.1
      omega
    · show st.writes + 1 ≤ c + ((k + 1 : Nat) : Int)
      have := h.writes.2
      omega
    · show (st.pend ++ [(A.sec, dataL A 64)]).length ≤ k + 1
      rw [List.length_append, List.length_singleton]
      have := h.few
      omega
    · rcases List.mem_append.1 (show q ∈ st.pend ++ [(A.sec, dataL A 64)] from hq) with h1 | h1
      · exact h.mem q h1
      · simp at h1
        subst h1
        exact ⟨hf1.1.1, by have := hf1.1.2; omega, A, hA, rfl⟩
/-- Behind the cut. -/
theorem outI_cut {L : List ActP} {k : Nat} {c : Int} {K : List (List Int)} {st : Dk} (h : OutI L k c K st) (kl : List Bool) (s : Nat) (x : List Int) (hx : (cutS st kl).kept[s]? = some x) : K[s]? = some x ∨ ∃ A ∈ L, A.sec = s ∧ dataL A 64 = x := by
  rcases settle_mem _ _ _ _ _ _ hx with h1 | ⟨t, h1, h2⟩
  · exact .inl (by rw [← h.kept]; exact h1)
  · obtain ⟨h3, _, A, hA, e⟩ := h.mem _ h2
    injection e with e1 e2
    refine .inr ⟨A, hA, ?_, e2.symm⟩
    rw [← e1]
    have h3' : 0 ≤ t := h3
    omega
end Go.Proofs.Ytpgncmoagmkcmaa
