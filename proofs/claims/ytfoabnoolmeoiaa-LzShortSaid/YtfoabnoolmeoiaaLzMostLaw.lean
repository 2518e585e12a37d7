/- How tokens hang on the most that may be told. No program in sight. -/
import Derived.Test.YtfoabnoolmeoiaaLzAllLaw
namespace Go.Proofs.Ytfoabnoolmeoiaa
theorem tokE_k (x : List Int) : rvV x x.length / 2 = tokL x + tokC x := by
  have := rvV_bd x x.length
  unfold tokL tokC
  split <;> omega
theorem tokE_any {x o : List Int} {M M' : Int} (h : tokE x o M = 0) (h' : ((tokO x o).length : Int) ≤ M') : tokE x o M' = 0 := by
  have hs := tokO_sum h
  have hk := tokE_k x
  unfold tokE at h ⊢
  split at h
  · rename_i hc; exact absurd h hc
  · rename_i h1
    rw [if_neg h1]
    split at h
    · omega
    · rename_i h2
      rw [if_neg h2]
      split at h
      · rename_i h3
        rw [if_pos h3]
        split at h
        · rename_i hc; exact absurd h hc
        · rename_i h4
          rw [if_neg h4]
          split at h
          · omega
          · rename_i h5
            rw [if_neg h5, if_neg (by omega)]
      · rename_i h3
        rw [if_neg h3, if_neg (by omega)]
        split at h
        · omega
        · split at h
          · omega
          · rename_i h6
            rw [if_neg h6]
theorem tokE_low {x o : List Int} {M M' : Int} (h : tokE x o M = 0) (h' : M' < ((tokO x o).length : Int)) : tokE x o M' = 24 := by
  have hs := tokO_sum h
  have hk := tokE_k x
  unfold tokE at h ⊢
  split at h
  · rename_i hc; exact absurd h hc
  · rename_i h1
    rw [if_neg h1]
    split at h
    · omega
    · rename_i h2
      rw [if_neg h2]
      split at h
      · rename_i h3
        rw [if_pos h3]
        split at h
        · rename_i hc; exact absurd h hc
        · rename_i h4
          rw [if_neg h4]
          split at h
          · omega
          · rename_i h5
            rw [if_neg h5, if_pos (by omega)]
      · rename_i h3
        rw [if_neg h3, if_pos (by omega)]
theorem toks_grow (M : Int) : ∀ (f : Nat) (x o : List Int) (l c : Int), o.length ≤ (toks M f x o l c).o.length
  | 0, x, o, l, c => by simp [toks]
  | f + 1, x, o, l, c => by
    unfold toks
    split
    · exact Nat.le_refl _
    · split
      · exact Nat.le_refl _
      · rename_i he
        have he : tokE x o M = 0 := by simpa using he
        have := toks_grow M f (tokX x) (tokO x o) (l + tokL x) (c + tokC x)
        have := tokO_sum he
        omega
theorem toks_any (M M' : Int) : ∀ (f : Nat) (x o : List Int) (l c : Int), (toks M f x o l c).e = 0 → ((toks M f x o l c).o.length : Int) ≤ M' → toks M' f x o l c = toks M f x o l c
  | 0, x, o, l, c, _, _ => rfl
  | f + 1, x, o, l, c, h, h' => by
    unfold toks at h h' ⊢
    split
    · rfl
    · rename_i hx
      rw [if_neg hx] at h h'
      split at h
      · rename_i he; exact absurd h he
      · rename_i he
        rw [if_neg he] at h' ⊢
        have he0 : tokE x o M = 0 := by simpa using he
        have hg := toks_grow M f (tokX x) (tokO x o) (l + tokL x) (c + tokC x)
        rw [if_neg (by rw [tokE_any he0 (by omega)]; simp)]
        exact toks_any M M' f _ _ _ _ h h'
theorem toks_low (M M' : Int) : ∀ (f : Nat) (x o : List Int) (l c : Int), (toks M f x o l c).e = 0 → M' < ((toks M f x o l c).o.length : Int) → (o.length : Int) ≤ M' → (toks M' f x o l c).e = 24
  | 0, x, o, l, c, _, h', ho => by simp [toks] at h'; omega
  | f + 1, x, o, l, c, h, h', ho => by
    unfold toks at h h' ⊢
    split
    · rename_i hx
      rw [if_pos hx] at h'
      simp at h'
      omega
    · rename_i hx
      rw [if_neg hx] at h h'
      split at h
      · rename_i he; exact absurd h he
      · rename_i he
        rw [if_neg he] at h'
        have he0 : tokE x o M = 0 := by simpa using he
        by_cases hl : M' < ((tokO x o).length : Int)
        · have := tokE_low he0 hl
          rw [if_pos (by rw [this]; decide)]
          exact this
        · rw [if_neg (by rw [tokE_any he0 (by omega)]; simp)]
          exact toks_low M M' f _ _ _ _ h h' (by omega)
theorem toks_le (M : Int) : ∀ (f : Nat) (x o : List Int) (l c : Int), (o.length : Int) ≤ M → ((toks M f x o l c).o.length : Int) ≤ M
  | 0, x, o, l, c, h => by simpa [toks] using h
  | f + 1, x, o, l, c, h => by
    unfold toks
    split
    · exact h
    · split
      · exact h
      · rename_i he
        have he : tokE x o M = 0 := by simpa using he
        exact toks_le M f _ _ _ _ (tokO_len he h)
theorem allT_le {M : Int} {x : List Int} (hM : 0 ≤ M) : ((allT M x).o.length : Int) ≤ M := by
  unfold allT
  split
  · simpa using hM
  · split
    · split
      · simpa using hM
      · simp only [List.length_drop]; omega
    · split
      · exact toks_le M _ _ _ _ _ (by simpa using hM)
      · simpa using hM
theorem allT_any {M M' : Int} {x : List Int} (h : (allT M x).e = 0) (h' : ((allT M x).o.length : Int) ≤ M') : allT M' x = allT M x := by
  unfold allT at h h' ⊢
  split
  · rfl
  · rename_i h0
    rw [if_neg h0] at h h'
    split
    · rename_i h1
      rw [if_pos h1] at h h'
      split at h
      · simp at h
      · rename_i h2
        rw [if_neg h2] at h'
        simp only [List.length_drop] at h'
        rw [if_neg (by omega), if_neg h2]
    · rename_i h1
      rw [if_neg h1] at h h'
      split
      · rename_i h2
        rw [if_pos h2] at h h'
        exact toks_any M M' _ _ _ _ _ h h'
      · rfl
theorem allT_low {M M' : Int} {x : List Int} (h : (allT M x).e = 0) (h' : M' < ((allT M x).o.length : Int)) (h0' : 0 ≤ M') : (allT M' x).e = 24 := by
  unfold allT at h h' ⊢
  split
  · rename_i h0
    rw [if_pos h0] at h
    simp at h
  · rename_i h0
    rw [if_neg h0] at h h'
    split
    · rename_i h1
      rw [if_pos h1] at h h'
      split at h
      · simp at h
      · rename_i h2
        rw [if_neg h2] at h'
        simp only [List.length_drop] at h'
        rw [if_pos (by omega)]
    · rename_i h1
      rw [if_neg h1] at h h'
      split
      · rename_i h2
        rw [if_pos h2] at h h'
        exact toks_low M M' _ _ _ _ _ h h' (by simpa using h0')
      · rename_i h2
        rw [if_neg h2] at h
        simp at h
end Go.Proofs.Ytfoabnoolmeoiaa
