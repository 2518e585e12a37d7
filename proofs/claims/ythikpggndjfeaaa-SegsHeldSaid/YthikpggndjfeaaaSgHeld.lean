/- segs: a segment that is held: the plain law of SegsHeld. -/
import Derived.Test.YthikpggndjfeaaaSgKnow
namespace Go.Proofs.Ythikpggndjfeaaa
open Go.RowKit
def LA (n i : Nat) : List Ent := List.replicate i KA ++ List.replicate (n - i) ent0
theorem freeI_zero : ∀ m : Nat, freeI (List.replicate m ent0) = 0
  | 0 => rfl
  | m + 1 => by rw [List.replicate_succ]; unfold freeI; rw [if_pos (show ent0.st = 0 from rfl)]
theorem freeI_app (r : List Ent) : ∀ i : Nat, freeI (List.replicate i KA ++ r) = i + freeI r
  | 0 => by simp
  | i + 1 => by
    rw [List.replicate_succ, List.cons_append, freeI, if_neg (by decide), freeI_app r i]
    omega
theorem freeI_LA (n i : Nat) : freeI (LA n i) = i := by unfold LA; rw [freeI_app, freeI_zero]; rfl
theorem LA_len {n i : Nat} (h : i ≤ n) : (LA n i).length = n := by unfold LA; rw [List.length_append, List.length_replicate, List.length_replicate]; omega
theorem LA_zero (n : Nat) : LA n 0 = List.replicate n ent0 := rfl
theorem takeS_LA {n i : Nat} (h : i < n) : takeS (LA n i) = LA n (i + 1) := by
  unfold takeS
  rw [freeI_LA, LA_len (Nat.le_of_lt h), if_pos h]
  unfold setE LA
  rw [Int.toNat_natCast, List.set_append_right _ _ (by rw [List.length_replicate]; exact Nat.le_refl _), List.length_replicate, Nat.sub_self]
  obtain ⟨m, hm⟩ : ∃ m, n - i = m + 1 := ⟨n - i - 1, by omega⟩
  rw [hm, List.replicate_succ, List.set_cons_zero, show n - (i + 1) = m by omega, List.replicate_succ', List.append_assoc]
  rfl
theorem getE_LA {n k : Nat} : getE (LA n (k + 1)) k = KA := by
  rw [getE_nat]
  unfold LA
  rw [List.getElem?_append_left (by rw [List.length_replicate]; omega), List.getElem?_replicate, if_pos (by omega)]
  rfl
theorem rel_mem {L : List Ent} {p k : Int} : k ∈ relL L p ↔ goes p (getE L k) = true := by
  unfold relL
  rw [List.mem_map]
  constructor
  · rintro ⟨a, ha, rfl⟩
    exact (List.mem_filter.1 ha).2
  · intro hk
    obtain ⟨i1, i2⟩ := inE_yes (goes_in hk).1
    obtain ⟨m, rfl⟩ := Int.eq_ofNat_of_zero_le i1
    exact ⟨m, List.mem_filter.2 ⟨List.mem_range.2 (by omega), hk⟩, rfl⟩
/-- Segment k is held, with epoch q. -/
structure HeldAt (n k : Nat) (q : Int) (L : List Ent) : Prop where
  len : L.length = n
  st : (getE L k).st = 3
  ep : (getE L k).ep = q
section
variable {n k : Nat} {q : Int} {L : List Ent}
theorem HeldAt.take (h : HeldAt n k q L) : HeldAt n k q (takeS L) ∧ (takeX L = 0 → takeR L ≠ (k : Int)) := by
  unfold takeS takeX takeR
  by_cases hf : freeI L < L.length
  · rw [if_pos hf, if_pos hf, if_pos hf]
    have h0 := freeI_at L hf
    have hne : (k : Int) ≠ (freeI L : Int) := fun e => by
      have h1 := h.st
      rw [e, getE_nat, h0] at h1
      cases h1
    have hg : getE (setE L (freeI L) ⟨1, 0, 0⟩) k = getE L k := by rw [get_set (inE_of ⟨by omega, by omega⟩), if_neg hne]
    exact ⟨⟨by rw [set_len, h.len], by rw [hg]; exact h.st, by rw [hg]; exact h.ep⟩, fun _ e => hne e.symm⟩
  · rw [if_neg hf, if_neg hf, if_neg hf]
    exact ⟨h, fun e => by cases e⟩
theorem HeldAt.fill (h : HeldAt n k q L) (K : Int) : HeldAt n k q (fillS L K) := by
  unfold fillS
  split
  · rename_i hi
    split
    · rename_i h1
      have hne : (k : Int) ≠ K := fun e => by rw [← e, h.st] at h1; cases h1
      have hg : getE (setE L K ⟨2, (getE L K).us, (getE L K).ep⟩) k = getE L k := by rw [get_set hi, if_neg hne]
      exact ⟨by rw [set_len, h.len], by rw [hg]; exact h.st, by rw [hg]; exact h.ep⟩
    · exact h
  · exact h
theorem HeldAt.add (h : HeldAt n k q L) (K N : Int) : HeldAt n k q (addS L K N) := by
  unfold addS
  split
  · rename_i hi
    split
    · exact h
    · split
      · exact h
      · have hg : getE (setE L K ⟨(getE L K).st, (getE L K).us + N, (getE L K).ep⟩) k = if (k : Int) = K then ⟨(getE L K).st, (getE L K).us + N, (getE L K).ep⟩ else getE L k := by rw [get_set hi]
        by_cases he : (k : Int) = K
        · rw [if_pos he, ← he] at hg
          refine ⟨by rw [set_len, h.len], ?_, ?_⟩
          · rw [← he, hg]; exact h.st
          · rw [← he, hg]; exact h.ep
        · rw [if_neg he] at hg
          exact ⟨by rw [set_len, h.len], by rw [hg]; exact h.st, by rw [hg]; exact h.ep⟩
  · exact h
theorem HeldAt.rel (h : HeldAt n k q L) {p : Int} (hp : p < q) : HeldAt n k q (relS L p) ∧ ∀ x ∈ relL L p, x ≠ (k : Int) := by
  have hg : goes p (getE L k) = false := by
    unfold goes
    rw [h.ep, decide_eq_false (show ¬ q ≤ p by omega), Bool.and_false]
  have he : getE (relS L p) k = getE L k := by rw [getE_rel, if_neg (by rw [hg]; decide)]
  refine ⟨⟨by unfold relS; rw [List.length_map, h.len], by rw [he]; exact h.st, by rw [he]; exact h.ep⟩, fun x hx e => ?_⟩
  rw [e] at hx
  have := rel_mem.1 hx
  rw [hg] at this
  cases this
theorem HeldAt.fin (h : HeldAt n k q L) : (k : Int) ∈ relL L q ∧ getE (relS L q) k = ent0 ∧ inE (relS L q) k = true := by
  have hg : goes q (getE L k) = true := by
    unfold goes
    rw [h.ep, h.st]
    simp
  have hi := (goes_in hg).1
  obtain ⟨i1, i2⟩ := inE_yes hi
  exact ⟨rel_mem.2 hg, by rw [getE_rel, if_pos hg], inE_of ⟨i1, by unfold relS; rw [List.length_map]; exact i2⟩⟩
theorem HeldAt.state (h : HeldAt n k q L) (hk : k < n) : stE L k = 3 := by
  unfold stE
  rw [if_pos (inE_of ⟨by omega, by rw [h.len]; omega⟩), h.st]
end
theorem held_start {n k : Nat} (q : Int) (hk : k < n) : fillX (LA n (k + 1)) k = 0 ∧ holdX (fillS (LA n (k + 1)) k) k = 0 ∧ HeldAt n k q (holdS (fillS (LA n (k + 1)) k) k q) := by
  have hi : inE (LA n (k + 1)) k = true := inE_of ⟨by omega, by rw [LA_len (by omega)]; omega⟩
  have hg := getE_LA (n := n) (k := k)
  have hF : fillS (LA n (k + 1)) k = setE (LA n (k + 1)) k ⟨2, 0, 0⟩ := by
    unfold fillS
    rw [if_pos hi, hg, if_pos (show KA.st = 1 from rfl)]
    rfl
  have hi2 : inE (setE (LA n (k + 1)) k ⟨2, 0, 0⟩) k = true := inE_of ⟨by omega, by rw [set_len, LA_len (by omega)]; omega⟩
  have hg2 : getE (setE (LA n (k + 1)) k ⟨2, 0, 0⟩) k = ⟨2, 0, 0⟩ := by rw [get_set hi, if_pos rfl]
  refine ⟨by unfold fillX; rw [if_pos hi, hg]; rfl, ?_, ?_⟩
  · rw [hF]
    unfold holdX
    rw [if_pos hi2, hg2]
    rfl
  · rw [hF]
    have hH : holdS (setE (LA n (k + 1)) k ⟨2, 0, 0⟩) k q = setE (setE (LA n (k + 1)) k ⟨2, 0, 0⟩) k ⟨3, 0, q⟩ := by
      unfold holdS
      rw [if_pos hi2, hg2, if_pos rfl]
    rw [hH]
    have hg3 : getE (setE (setE (LA n (k + 1)) k ⟨2, 0, 0⟩) k ⟨3, 0, q⟩) k = ⟨3, 0, q⟩ := by rw [get_set hi2, if_pos rfl]
    exact ⟨by rw [set_len, set_len, LA_len (by omega)], by rw [hg3], by rw [hg3]⟩
end Go.Proofs.Ythikpggndjfeaaa
