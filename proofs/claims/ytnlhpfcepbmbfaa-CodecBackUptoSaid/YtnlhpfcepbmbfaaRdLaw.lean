/- What a reader of records tells: plain laws. No program in sight. -/
import Derived.Test.YtnlhpfcepbmbfaaReadVar
namespace Go.Proofs.Ytnlhpfcepbmbfaa
open Go.RowKit
/-- What reading something comes to: the error (0: none), what is told, what is left. -/
structure Rd (α : Type) where
  e : Int
  v : α
  l : List Int
/-- One number. -/
def rdInt (l : List Int) : Rd Int :=
  if rvE l l.length ≠ 0 then ⟨rvE l l.length, 0, l⟩ else ⟨0, zagI (rvV l l.length), l.drop (rvN l l.length).toNat⟩
def rdBetween (lo hi : Int) (l : List Int) : Rd Int :=
  if (rdInt l).e ≠ 0 then ⟨(rdInt l).e, 0, (rdInt l).l⟩ else if (rdInt l).v < lo ∨ hi < (rdInt l).v then ⟨22, 0, (rdInt l).l⟩ else rdInt l
def rdBytes (most : Int) (l : List Int) : Rd (List Int) :=
  if (rdBetween 0 most l).e ≠ 0 then ⟨(rdBetween 0 most l).e, [], (rdBetween 0 most l).l⟩
  else if ((rdBetween 0 most l).l.length : Int) < (rdBetween 0 most l).v then ⟨21, [], (rdBetween 0 most l).l⟩
  else ⟨0, (rdBetween 0 most l).l.take (rdBetween 0 most l).v.toNat, (rdBetween 0 most l).l.drop (rdBetween 0 most l).v.toNat⟩
/-- So many numbers. -/
def rdInts : Nat → List Int → Rd (List Int)
  | 0, l => ⟨0, [], l⟩
  | k + 1, l => if (rdInt l).e ≠ 0 then ⟨(rdInt l).e, [], (rdInt l).l⟩ else if (rdInts k (rdInt l).l).e ≠ 0 then ⟨(rdInts k (rdInt l).l).e, [], (rdInts k (rdInt l).l).l⟩ else ⟨0, (rdInt l).v :: (rdInts k (rdInt l).l).v, (rdInts k (rdInt l).l).l⟩
def rdList (most : Int) (l : List Int) : Rd (List Int) :=
  if (rdBetween 0 most l).e ≠ 0 then ⟨(rdBetween 0 most l).e, [], (rdBetween 0 most l).l⟩ else rdInts (rdBetween 0 most l).v.toNat (rdBetween 0 most l).l
/-- Behind an error nothing is told. -/
def rdFrom {α : Type} (e0 : Int) (z : α) (l : List Int) (r : Rd α) : Rd α := if e0 ≠ 0 then ⟨e0, z, l⟩ else r
theorem rdFrom_ok {α : Type} (z : α) (l : List Int) (r : Rd α) : rdFrom 0 z l r = r := if_neg (by simp)
theorem rdFrom_bad {α : Type} {e0 : Int} (z : α) (l : List Int) (r : Rd α) (h : e0 ≠ 0) : rdFrom e0 z l r = ⟨e0, z, l⟩ := if_pos h
theorem rdInt_bad {l : List Int} (h : rvE l l.length ≠ 0) : rdInt l = ⟨rvE l l.length, 0, l⟩ := by unfold rdInt; rw [if_pos h]
theorem rdInt_ok {l : List Int} (h : rvE l l.length = 0) : rdInt l = ⟨0, zagI (rvV l l.length), l.drop (rvN l l.length).toNat⟩ := by unfold rdInt; rw [if_neg (by simpa using h)]
theorem rvE_vals (l : List Int) (n : Nat) : rvE l n = 0 ∨ rvE l n = 21 ∨ rvE l n = 22 := by
  unfold rvE
  split
  · exact .inr (.inr rfl)
  · split
    · exact .inr (.inl rfl)
    · exact .inl rfl
theorem rdN_pos {x : List Int} {n : Nat} (h : rvE x n = 0) : 1 ≤ rvN x n := by unfold rvN; rw [if_pos h]; omega
theorem rdN_le {x : List Int} (h : rvE x x.length = 0) : rvN x x.length ≤ x.length := by
  have key : lead x x.length < x.length := by
    unfold rvE at h
    split at h
    · omega
    · split at h
      · omega
      · rename_i h1 h2
        have : ∀ (f k : Nat), k ≤ x.length → leadF x x.length f k ≤ x.length ∨ leadF x x.length f k = f + k := by
          intro f
          induction f with
          | zero => intro k hk; exact .inl (by simpa [leadF] using hk)
          | succ f ih =>
            intro k hk
            rw [leadF]
            split
            · rename_i hc
              rcases ih (k + 1) (by omega) with h | h
              · exact .inl h
              · exact .inr (by omega)
            · exact .inl hk
        rcases this 10 0 (by omega) with h | h
        · have : lead x x.length ≤ x.length := h
          omega
        · have h10 : lead x x.length = 10 := by unfold lead; omega
          exfalso
          apply h1
          unfold rvForm
          simp [h10]
  unfold rvN
  rw [if_pos h]
  omega
theorem rdV_bd (x : List Int) (n : Nat) : 0 ≤ rvV x n := by
  unfold rvV
  split
  · exact (valK_bd x _).1
  · omega
theorem rdInt_len {l : List Int} (h : (rdInt l).e = 0) : (rdInt l).l.length < l.length := by
  by_cases h0 : rvE l l.length = 0
  · rw [rdInt_ok h0]
    have h1 := rdN_pos h0
    have h2 := rdN_le h0
    simp only [List.length_drop]
    omega
  · rw [rdInt_bad h0] at h
    exact absurd h h0
theorem rdInt_sub (l : List Int) : ∀ y ∈ (rdInt l).l, y ∈ l := by
  by_cases h0 : rvE l l.length = 0
  · rw [rdInt_ok h0]
    exact fun y hy => List.mem_of_mem_drop hy
  · rw [rdInt_bad h0]
    exact fun y hy => hy
theorem rdInt_z {l : List Int} (h : (rdInt l).e ≠ 0) : (rdInt l).v = 0 := by
  by_cases h0 : rvE l l.length = 0
  · rw [rdInt_ok h0] at h
    exact absurd rfl h
  · rw [rdInt_bad h0]
theorem rdBetween_z {lo hi : Int} {l : List Int} (h : (rdBetween lo hi l).e ≠ 0) : (rdBetween lo hi l).v = 0 := by
  unfold rdBetween at *
  split at h
  · rename_i h1; rw [if_pos h1]
  · rename_i h1
    rw [if_neg h1]
    split at h
    · rename_i h2; rw [if_pos h2]
    · exact absurd h h1
theorem rdBytes_z {most : Int} {l : List Int} (h : (rdBytes most l).e ≠ 0) : (rdBytes most l).v = [] := by
  unfold rdBytes at *
  split at h
  · rename_i h1; rw [if_pos h1]
  · rename_i h1
    rw [if_neg h1]
    split at h
    · rename_i h2; rw [if_pos h2]
    · exact absurd rfl h
theorem rdInts_z : ∀ (k : Nat) (l : List Int), (rdInts k l).e ≠ 0 → (rdInts k l).v = []
  | 0, l, h => absurd rfl h
  | k + 1, l, h => by
    rw [rdInts] at h ⊢
    split
    · rfl
    · split
      · rfl
      · rename_i h1 h2
        rw [if_neg h1, if_neg h2] at h
        exact absurd rfl h
theorem rdList_z {most : Int} {l : List Int} (h : (rdList most l).e ≠ 0) : (rdList most l).v = [] := by
  unfold rdList at *
  split at h
  · rename_i h1; rw [if_pos h1]
  · rename_i h1
    rw [if_neg h1]
    exact rdInts_z _ _ h
theorem rdBetween_ok {lo hi : Int} {l : List Int} (h : (rdBetween lo hi l).e = 0) : rdBetween lo hi l = rdInt l ∧ (rdInt l).e = 0 ∧ lo ≤ (rdInt l).v ∧ (rdInt l).v ≤ hi := by
  unfold rdBetween at *
  split at h
  · rename_i h1; exact absurd h h1
  · rename_i h1
    rw [if_neg h1]
    split at h
    · simp at h
    · rename_i h2
      rw [if_neg h2]
      exact ⟨rfl, h, by omega, by omega⟩
theorem rd_leadF_top (x : List Int) (n : Nat) : ∀ f k, leadF x n f k ≤ f + k
  | 0, k => by unfold leadF; omega
  | f + 1, k => by
    have := rd_leadF_top x n f (k + 1)
    unfold leadF
    split <;> omega
theorem rdV_lt (x : List Int) (n : Nat) (h0 : 0 ≤ nth x 9) : rvV x n ≤ 18446744073709551615 := by
  unfold rvV
  split
  · rename_i he
    have hl : lead x n ≤ 10 := rd_leadF_top x n 10 0
    unfold rvE at he
    split at he
    · omega
    · rename_i hf
      have hf2 : ¬ (lead x n = 10 ∨ (lead x n ≠ n ∧ ((0 < lead x n ∧ nth x (lead x n) = 0) ∨ (lead x n = 9 ∧ 1 < nth x 9)))) := fun h => hf (by unfold rvForm; exact decide_eq_true h)
      have hn : lead x n ≠ n := by
        intro h
        rw [if_pos h] at he
        omega
      by_cases h9 : lead x n = 9
      · have h1 : nth x 9 ≤ 1 := by omega
        have := valFrom_top x 9 0 (by rw [Nat.zero_add]; omega)
        rw [valFrom_zero] at this
        rw [h9]
        have e : (2 : Int) ^ (7 * 9 + 1) = 18446744073709551616 := by decide
        omega
      · have h8 : lead x n ≤ 8 := by omega
        have h2 := (valK_bd x (lead x n + 1)).2
        have h3 : (2 : Int) ^ (7 * (lead x n + 1)) ≤ 2 ^ 63 := by
          have : (2 : Nat) ^ (7 * (lead x n + 1)) ≤ 2 ^ 63 := Nat.pow_le_pow_right (by omega) (by omega)
          exact_mod_cast this
        have e : (2 : Int) ^ 63 = 9223372036854775808 := by decide
        omega
  · omega
theorem rd_nth_pos (x : List Int) (h : ∀ y ∈ x, (Lit.int .u8 y).wf = true) (i : Nat) : 0 ≤ nth x i := by
  by_cases hi : i < x.length
  · rw [nth_eq hi]
    exact (wf_u8_bd (h _ (List.getElem_mem hi))).1
  · rw [nth_out (by omega)]; omega
end Go.Proofs.Ytnlhpfcepbmbfaa
