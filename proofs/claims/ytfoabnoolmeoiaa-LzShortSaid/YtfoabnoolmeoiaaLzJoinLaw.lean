/- Two rows of tokens, one behind the other. No program in sight. -/
import Derived.Test.YtfoabnoolmeoiaaLzMostLaw
namespace Go.Proofs.Ytfoabnoolmeoiaa
theorem nth_app_lo {l r : List Int} {i : Nat} (h : i < l.length) : nth (l ++ r) i = nth l i := by
  rw [nth_eq (by rw [List.length_append]; omega), nth_eq h, List.getElem_append_left h]
theorem nth_app_hi {l r : List Int} {i : Nat} : nth (l ++ r) (l.length + i) = nth r i := by
  unfold nth
  simp only [List.getD]
  rw [List.getElem?_append_right (by omega), show l.length + i - l.length = i by omega]
theorem leadF_app (l r : List Int) : ∀ (f k : Nat), leadF l l.length f k < l.length → leadF (l ++ r) (l ++ r).length f k = leadF l l.length f k
  | 0, k, _ => rfl
  | f + 1, k, h => by
    rw [leadF] at h ⊢
    rw [leadF]
    by_cases hc : k < l.length ∧ 128 ≤ nth l k
    · rw [if_pos hc] at h ⊢
      rw [if_pos ⟨by rw [List.length_append]; omega, by rw [nth_app_lo hc.1]; exact hc.2⟩]
      exact leadF_app l r f (k + 1) h
    · rw [if_neg hc] at h ⊢
      rw [if_neg]
      rintro ⟨_, h2⟩
      rw [nth_app_lo h] at h2
      exact hc ⟨h, h2⟩
theorem valK_app (l r : List Int) : ∀ k, k ≤ l.length → valK (l ++ r) k = valK l k
  | 0, _ => rfl
  | k + 1, h => by rw [valK, valK, valK_app l r k (by omega), nth_app_lo (by omega)]
theorem rv_app {l : List Int} (r : List Int) (h : rvE l l.length = 0) :
    rvE (l ++ r) (l ++ r).length = 0 ∧ rvV (l ++ r) (l ++ r).length = rvV l l.length ∧ rvN (l ++ r) (l ++ r).length = rvN l l.length := by
  have hl := lead_le l l.length h
  have hL : lead (l ++ r) (l ++ r).length = lead l l.length := leadF_app l r 10 0 hl
  have hF : rvForm (l ++ r) (l ++ r).length = rvForm l l.length := by
    unfold rvForm
    rw [hL]
    have h1 : ¬ lead l l.length = l.length + r.length := by omega
    have h2 : lead l l.length ≠ l.length := by omega
    by_cases h9 : lead l l.length = 9
    · rw [nth_app_lo hl, nth_app_lo (i := 9) (by omega)]
      simp [h1, h2]
    · rw [nth_app_lo hl]
      simp [h1, h2, h9]
  have hE : rvE (l ++ r) (l ++ r).length = 0 := by
    unfold rvE at h ⊢
    rw [hF, hL]
    split at h
    · omega
    · rename_i hc
      rw [if_neg hc, if_neg (by rw [List.length_append]; omega)]
  refine ⟨hE, ?_, ?_⟩
  · unfold rvV
    rw [if_pos hE, if_pos h, hL, valK_app l r _ (by omega)]
  · unfold rvN
    rw [if_pos hE, if_pos h, hL]
theorem restV_app {l : List Int} (r : List Int) (h : rvE l l.length = 0) : restV (l ++ r) = restV l ++ r := by
  unfold restV
  rw [(rv_app r h).2.2]
  have := rvN_le h
  rw [List.drop_append_of_le_length (by omega)]
theorem tok_app {x o : List Int} {M : Int} (r : List Int) (h : tokE x o M = 0) :
    tokE (x ++ r) o M = 0 ∧ tokX (x ++ r) = tokX x ++ r ∧ tokO (x ++ r) o = tokO x o ∧ tokL (x ++ r) = tokL x ∧ tokC (x ++ r) = tokC x := by
  have h1 : rvE x x.length = 0 := by
    unfold tokE at h
    split at h
    · rename_i hc; exact absurd h hc
    · rename_i hc; simpa using hc
  obtain ⟨a1, a2, a3⟩ := rv_app r h1
  have a4 := restV_app r h1
  have hv := rvV_bd x x.length
  unfold tokE at h
  rw [if_neg (by simpa using h1)] at h
  split at h
  · omega
  · rename_i h2
    by_cases h3 : rvV x x.length % 2 = 1
    · rw [if_pos h3] at h
      have h4 : rvE (restV x) (restV x).length = 0 := by
        split at h
        · rename_i hc; exact absurd h hc
        · rename_i hc; simpa using hc
      obtain ⟨b1, b2, b3⟩ := rv_app r h4
      have b4 := restV_app r h4
      unfold tokE tokX tokO tokL tokC
      rw [a1, a2, a4, b1, b2]
      simp only [h3, if_true, b4]
      rw [if_neg (by decide), if_neg h2, if_neg (by decide)]
      rw [if_neg (by simpa using h4)] at h
      exact ⟨h, trivial, trivial, trivial, trivial⟩
    · rw [if_neg h3] at h
      have hk : ¬ (((restV x).length : Int) < rvV x x.length / 2) := by
        split at h
        · omega
        · split at h
          · omega
          · assumption
      have hm : ¬ (M - o.length < rvV x x.length / 2) := by
        split at h
        · omega
        · assumption
      unfold tokE tokX tokO tokL tokC
      rw [a1, a2, a4]
      simp only [h3, if_false]
      rw [if_neg (by decide), if_neg h2, if_neg hm, if_neg (by rw [List.length_append]; omega)]
      refine ⟨rfl, ?_, ?_, trivial, trivial⟩
      · rw [List.drop_append_of_le_length (by omega)]
      · rw [List.take_append_of_le_length (by omega)]
theorem toks_fuel (M : Int) : ∀ (f g : Nat) (x o : List Int) (l c : Int), x.length ≤ f → x.length ≤ g → toks M f x o l c = toks M g x o l c
  | 0, g, x, o, l, c, h, _ => by
    obtain rfl : x = [] := List.length_eq_zero_iff.1 (by omega)
    rw [toks_nil, toks_nil]
  | f + 1, 0, x, o, l, c, _, h => by
    obtain rfl : x = [] := List.length_eq_zero_iff.1 (by omega)
    rw [toks_nil, toks_nil]
  | f + 1, g + 1, x, o, l, c, hf, hg => by
    rw [toks, toks]
    split
    · rfl
    · split
      · rfl
      · rename_i he
        have he : tokE x o M = 0 := by simpa using he
        have := tokX_len he
        exact toks_fuel M f g _ _ _ _ (by omega) (by omega)
theorem toks_app (M : Int) (r : List Int) : ∀ (f F : Nat) (x o : List Int) (l c : Int), x.length ≤ f → (x ++ r).length ≤ F → (toks M f x o l c).e = 0 →
    toks M F (x ++ r) o l c = toks M F r (toks M f x o l c).o (toks M f x o l c).lit (toks M f x o l c).cop
  | 0, F, x, o, l, c, h, _, _ => by
    obtain rfl : x = [] := List.length_eq_zero_iff.1 (by omega)
    rfl
  | f + 1, F, x, o, l, c, hf, hF, he => by
    by_cases hx : x = []
    · subst hx
      rw [toks_nil]
      rfl
    · have hxl : x.length ≠ 0 := fun h => hx (List.length_eq_zero_iff.1 h)
      rw [toks, if_neg hx] at he ⊢
      by_cases h0 : tokE x o M = 0
      · rw [if_neg (by simpa using h0)] at he ⊢
        rw [List.length_append] at hF
        obtain ⟨F, rfl⟩ : ∃ F', F = F' + 1 := ⟨F - 1, by omega⟩
        obtain ⟨b1, b2, b3, b4, b5⟩ := tok_app r h0
        have hlt := tokX_len h0
        rw [toks_good (by rw [List.length_append]; omega) b1, b2, b3, b4, b5, toks_app M r f F _ _ _ _ (by omega) (by rw [List.length_append]; omega) he]
        exact toks_fuel M F (F + 1) _ _ _ _ (by omega) (by omega)
      · rw [if_pos h0] at he
        exact absurd he h0
theorem copyN_app {p o : List Int} {d : Nat} (h1 : 1 ≤ d) (h2 : d ≤ o.length) : ∀ k, copyN (p ++ o) d k = p ++ copyN o d k
  | 0 => rfl
  | k + 1 => by
    have hl := copyN_len o d k
    rw [copyN, copyN, copyN_app h1 h2 k, List.length_append, show p.length + (copyN o d k).length - d = p.length + ((copyN o d k).length - d) by omega, nth_app_hi, List.append_assoc]
theorem tok_shift {x o : List Int} {M M' : Int} (p : List Int) (h : tokE x o M = 0) (h' : (p.length : Int) + (tokO x o).length ≤ M') :
    tokE x (p ++ o) M' = 0 ∧ tokO x (p ++ o) = p ++ tokO x o := by
  have hs := tokO_sum h
  have hk := tokE_k x
  have hv := rvV_bd (restV x) (restV x).length
  unfold tokE at h ⊢
  split at h
  · rename_i hc; exact absurd h hc
  · rename_i h1
    rw [if_neg h1]
    split at h
    · omega
    · rename_i h2
      rw [if_neg h2]
      split at h
      · rename_i h3
        rw [if_pos h3]
        split at h
        · rename_i hc; exact absurd h hc
        · rename_i h4
          rw [if_neg h4]
          split at h
          · omega
          · rename_i h5
            rw [if_neg (by rw [List.length_append]; omega), if_neg (by rw [List.length_append]; omega)]
            refine ⟨rfl, ?_⟩
            unfold tokO
            rw [if_pos h3, if_pos h3]
            exact copyN_app (by omega) (by omega) _
      · rename_i h3
        rw [if_neg h3, if_neg (by rw [List.length_append]; omega)]
        split at h
        · omega
        · split at h
          · omega
          · rename_i h6
            rw [if_neg h6]
            refine ⟨rfl, ?_⟩
            unfold tokO
            rw [if_neg h3, if_neg h3, List.append_assoc]
theorem toks_shift (M M' : Int) (p : List Int) : ∀ (f : Nat) (x o : List Int) (l c l' c' : Int), (toks M f x o l c).e = 0 → (p.length : Int) + (toks M f x o l c).o.length ≤ M' →
    (toks M' f x (p ++ o) l' c').e = 0 ∧ (toks M' f x (p ++ o) l' c').o = p ++ (toks M f x o l c).o
  | 0, x, o, l, c, l', c', _, _ => ⟨rfl, rfl⟩
  | f + 1, x, o, l, c, l', c', h, h' => by
    rw [toks] at h h' ⊢
    rw [toks]
    by_cases hx : x = []
    · rw [if_pos hx, if_pos hx]
      exact ⟨rfl, rfl⟩
    · rw [if_neg hx] at h h' ⊢
      rw [if_neg hx]
      by_cases h0 : tokE x o M = 0
      · rw [if_neg (show ¬ tokE x o M ≠ 0 by simpa using h0)] at h h'
        have hg := toks_grow M f (tokX x) (tokO x o) (l + tokL x) (c + tokC x)
        obtain ⟨b1, b2⟩ := tok_shift (M' := M') p h0 (by omega)
        rw [if_neg (show ¬ tokE x (p ++ o) M' ≠ 0 by simpa using b1), if_neg (show ¬ tokE x o M ≠ 0 by simpa using h0), b2]
        exact toks_shift M M' p f _ _ _ _ _ _ h h'
      · rw [if_pos h0] at h
        exact absurd h h0
theorem allT_one (M : Int) (a : List Int) : allT M ([1] ++ a) = toks M a.length a [] 0 0 := by
  unfold allT
  rw [if_neg (by simp), if_neg (show ¬ nth ([1] ++ a) 0 = 0 from (show ¬ (1 : Int) = 0 by decide)), if_pos (show nth ([1] ++ a) 0 = 1 from rfl)]
  simp
theorem allT_joins {a b : List Int} {M : Int} (ha : (allT M ([1] ++ a)).e = 0) (hb : (allT M ([1] ++ b)).e = 0) {N : Int} (hN : N = (allT M ([1] ++ a)).o.length + (allT M ([1] ++ b)).o.length) :
    (allT N ([1] ++ a ++ b)).e = 0 ∧ (allT N ([1] ++ a ++ b)).o = (allT M ([1] ++ a)).o ++ (allT M ([1] ++ b)).o := by
  subst hN
  rw [List.append_assoc, allT_one, allT_one, allT_one] at *
  have hA := toks_any M ((toks M a.length a [] 0 0).o.length + (toks M b.length b [] 0 0).o.length) a.length a [] 0 0 ha (by omega)
  rw [toks_app _ b a.length _ a [] 0 0 (Nat.le_refl _) (Nat.le_refl _) (by rw [hA]; exact ha), hA]
  rw [toks_fuel _ (a ++ b).length b.length b _ _ _ (by rw [List.length_append]; omega) (Nat.le_refl _)]
  have := toks_shift M ((toks M a.length a [] 0 0).o.length + (toks M b.length b [] 0 0).o.length) (toks M a.length a [] 0 0).o b.length b [] 0 0 (toks M a.length a [] 0 0).lit (toks M a.length a [] 0 0).cop hb (by omega)
  rw [List.append_nil] at this
  exact this
end Go.Proofs.Ytfoabnoolmeoiaa
