/- Rows of tokens: what one token does, what all do. No program in sight. -/
import Derived.Test.YtfoabnoolmeoiaaReadVar
namespace Go.Proofs.Ytfoabnoolmeoiaa
open Go.RowKit
/-- So many bytes copied, one by one, each from d behind the end. -/
def copyN (o : List Int) (d : Nat) : Nat → List Int
  | 0 => o
  | k + 1 => copyN o d k ++ [nth (copyN o d k) ((copyN o d k).length - d)]
theorem copyN_len (o : List Int) (d : Nat) : ∀ k, (copyN o d k).length = o.length + k
  | 0 => rfl
  | k + 1 => by rw [copyN, List.length_append, copyN_len o d k]; rfl
/-- What a row of tokens has come to: the error, what is left, what is told, by literals, by copies. -/
structure Tok where
  e : Int
  x : List Int
  o : List Int
  lit : Int
  cop : Int
/-- The first number's rest, and the second number's. -/
def restV (x : List Int) : List Int := x.drop (rvN x x.length).toNat
def tokE (x o : List Int) (most : Int) : Int :=
  if rvE x x.length ≠ 0 then rvE x x.length
  else if rvV x x.length / 2 = 0 then 22
  else if rvV x x.length % 2 = 1 then
    if rvE (restV x) (restV x).length ≠ 0 then rvE (restV x) (restV x).length
    else if rvV (restV x) (restV x).length = 0 ∨ (o.length : Int) < rvV (restV x) (restV x).length then 22
    else if most - o.length < rvV x x.length / 2 then 24 else 0
  else if most - o.length < rvV x x.length / 2 then 24
  else if ((restV x).length : Int) < rvV x x.length / 2 then 21 else 0
def tokX (x : List Int) : List Int :=
  if rvV x x.length % 2 = 1 then restV (restV x) else (restV x).drop (rvV x x.length / 2).toNat
def tokO (x o : List Int) : List Int :=
  if rvV x x.length % 2 = 1 then copyN o (rvV (restV x) (restV x).length).toNat (rvV x x.length / 2).toNat else o ++ (restV x).take (rvV x x.length / 2).toNat
def tokL (x : List Int) : Int := if rvV x x.length % 2 = 1 then 0 else rvV x x.length / 2
def tokC (x : List Int) : Int := if rvV x x.length % 2 = 1 then rvV x x.length / 2 else 0
/-- All tokens, at most so many. -/
def toks (most : Int) : Nat → List Int → List Int → Int → Int → Tok
  | 0, x, o, l, c => ⟨0, x, o, l, c⟩
  | f + 1, x, o, l, c => if x = [] then ⟨0, x, o, l, c⟩ else if tokE x o most ≠ 0 then ⟨tokE x o most, x, o, l, c⟩ else toks most f (tokX x) (tokO x o) (l + tokL x) (c + tokC x)
theorem rvN_pos {x : List Int} {n : Nat} (h : rvE x n = 0) : 1 ≤ rvN x n := by unfold rvN; rw [if_pos h]; omega
theorem lead_le (x : List Int) (n : Nat) (h : rvE x n = 0) : lead x n < n := by
  unfold rvE at h
  split at h
  · omega
  · split at h
    · omega
    · rename_i h1 h2
      have : ∀ (f k : Nat), k ≤ n → leadF x n f k ≤ n ∨ leadF x n f k = f + k := by
        intro f
        induction f with
        | zero => intro k hk; exact .inl (by simpa [leadF] using hk)
        | succ f ih =>
          intro k hk
          rw [leadF]
          split
          · rename_i hc
            rcases ih (k + 1) (by omega) with h | h
            · exact .inl h
            · exact .inr (by omega)
          · exact .inl hk
      rcases this 10 0 (by omega) with h | h
      · have : lead x n ≤ n := h
        omega
      · have h10 : lead x n = 10 := by unfold lead; omega
        exfalso
        apply h1
        unfold rvForm
        simp [h10]
theorem rvN_le {x : List Int} {n : Nat} (h : rvE x n = 0) : rvN x n ≤ n := by
  have := lead_le x n h
  unfold rvN
  rw [if_pos h]
  omega
theorem rvV_bd (x : List Int) (n : Nat) : 0 ≤ rvV x n := by
  unfold rvV
  split
  · exact (valK_bd x _).1
  · omega
theorem restV_len {x : List Int} (h : rvE x x.length = 0) : (restV x).length + 1 ≤ x.length := by
  have h1 := rvN_pos h
  have h2 := rvN_le h
  unfold restV
  rw [List.length_drop]
  omega
theorem tokX_len {x o : List Int} {most : Int} (h : tokE x o most = 0) : (tokX x).length < x.length := by
  have h1 : rvE x x.length = 0 := by
    unfold tokE at h
    split at h
    · rename_i hc; exact absurd h hc
    · rename_i hc; simpa using hc
  have h2 := restV_len h1
  unfold tokX
  split
  · rename_i hodd
    have h3 : rvE (restV x) (restV x).length = 0 := by
      unfold tokE at h
      rw [if_neg (by simpa using h1)] at h
      split at h
      · omega
      · split at h
        · rename_i hc; exact absurd h hc
        · rename_i hc; simpa using hc
    have := restV_len h3
    omega
  · rw [List.length_drop]; omega
theorem tokO_len {x o : List Int} {most : Int} (h : tokE x o most = 0) (ho : (o.length : Int) ≤ most) : ((tokO x o).length : Int) ≤ most := by
  have hv := rvV_bd x x.length
  have hk : (rvV x x.length / 2) ≤ most - o.length := by
    unfold tokE at h
    split at h
    · rename_i hc; exact absurd h hc
    · split at h
      · omega
      · split at h
        · split at h
          · rename_i hc; exact absurd h hc
          · split at h
            · omega
            · split at h <;> omega
        · split at h
          · omega
          · split at h <;> omega
  unfold tokO
  split
  · rw [copyN_len]; omega
  · rw [List.length_append, List.length_take]; omega
end Go.Proofs.Ytfoabnoolmeoiaa
