/- Plain laws: ReadVar undoes Var. No program in sight. -/
import Derived.Test.YtfoabnoolmeoiaaReadVar
import Derived.Test.YtfoabnoolmeoiaaVar
namespace Go.Proofs.Ytfoabnoolmeoiaa
open Go.RowKit
theorem bk_zero (x : Int) (t : List Int) : nth (x :: t) 0 = x := rfl
theorem bk_succ (x : Int) (t : List Int) (j : Nat) : nth (x :: t) (j + 1) = nth t j := by simp [nth, List.getD]
theorem bk_app {l r : List Int} {j : Nat} (h : j < l.length) : nth (l ++ r) j = nth l j := by simp [nth, List.getD, List.getElem?_append_left h]
theorem valFrom_cons (x : Int) (t : List Int) : ∀ (n i : Nat), valFrom (x :: t) (i + 1) n = valFrom t i n
  | 0, _ => rfl
  | n + 1, i => by rw [valFrom, valFrom, valFrom_cons x t n (i + 1), bk_succ]
theorem valK_congr {l r : List Int} : ∀ (n : Nat), (∀ j, j < n → nth l j = nth r j) → valK l n = valK r n
  | 0, _ => rfl
  | n + 1, h => by rw [valK, valK, valK_congr n (fun j hj => h j (by omega)), h n (by omega)]

def VarOk (A : List Int) (v : Int) : Prop :=
    (∀ j, j + 1 < A.length → 128 ≤ nth A j) ∧ nth A (A.length - 1) < 128 ∧ nth A (A.length - 1) = v / 2 ^ (7 * (A.length - 1)) ∧
    (1 < A.length → nth A (A.length - 1) ≠ 0) ∧ valFrom A 0 A.length = v ∧ 1 ≤ A.length
theorem VarOk.one {v : Int} (h0 : 0 ≤ v) (h1 : v < 128) : VarOk [v] v := by
  unfold VarOk
  simp [nth, valFrom]; omega
theorem VarOk.step {A : List Int} {v : Int} (h : 128 ≤ v) (hA : VarOk A (v / 128)) : VarOk ((v % 128 + 128) :: A) v := by
  obtain ⟨i1, i2, i3, i4, i5, hl⟩ := hA
  unfold VarOk
  rw [List.length_cons]
  generalize A.length = L at *
  have e1 : L + 1 - 1 = (L - 1) + 1 := by omega
  rw [e1]
  refine ⟨fun j hj => ?_, ?_, ?_, fun _ => ?_, ?_, by omega⟩
  · cases j with
    | zero => rw [bk_zero]; omega
    | succ j => rw [bk_succ]; exact i1 j (by omega)
  · rw [bk_succ]; exact i2
  · rw [bk_succ, i3, show 7 * (L - 1 + 1) = 7 + 7 * (L - 1) by omega, Int.pow_add, ← Int.ediv_ediv_of_nonneg (Int.pow_nonneg (by decide))]
    rfl
  · rw [bk_succ]
    by_cases hL1 : 1 < L
    · exact i4 hL1
    · rw [i3, show L - 1 = 0 by omega]; simp; omega
  · rw [valFrom, bk_zero, valFrom_cons, i5]; omega
theorem varF_spec (f : Nat) : ∀ (v : Int), 0 ≤ v → v < 2 ^ (7 * f + 7) → VarOk (varF f v) v := by
  induction f with
  | zero => intro v h0 hb; exact VarOk.one h0 (by simpa using hb)
  | succ f ih =>
    intro v h0 hb
    by_cases h : 128 ≤ v
    · rw [varF_step f v h]
      exact VarOk.step h (ih (v / 128) (by omega) (by rw [show 7 * (f + 1) + 7 = 7 * f + 7 + 7 by omega, Int.pow_add] at hb; omega))
    · rw [varF_last _ _ (by omega)]
      exact VarOk.one h0 (by omega)

/-- ReadVar tells what Var laid, whatever stands behind it. -/
theorem readvar_var (u : Int) (h0 : 0 ≤ u) (h1 : u ≤ 18446744073709551615) (more : List Int) (N : Nat) (hN : N = (varF 9 u ++ more).length) :
    rvV (varF 9 u ++ more) N = u ∧ rvN (varF 9 u ++ more) N = (varF 9 u).length ∧ rvE (varF 9 u ++ more) N = 0 := by
  obtain ⟨i1, i2, i3, i4, i5, _⟩ := varF_spec 9 u h0 (by omega)
  obtain ⟨l1, l2⟩ := varF_len 9 u
  generalize hA : varF 9 u = A at *
  generalize hL : A.length = L at *
  rw [List.length_append, hL] at hN
  have hn (j : Nat) (hj : j < L) : nth (A ++ more) j = nth A j := bk_app (by omega)
  have hlead : lead (A ++ more) N = L - 1 := lead_at (by omega) (fun j hj => ⟨by omega, by rw [hn j (by omega)]; exact i1 j (by omega)⟩) (by rw [hn _ (by omega)]; omega)
  have h9 : L - 1 = 9 → nth A (L - 1) ≤ 1 := fun h => by rw [i3, h]; simp; omega
  obtain ⟨r1, r2, r3⟩ := rv_ok hlead (by omega) (by omega) (by rw [hn _ (by omega)]; intro ⟨a, b⟩; exact i4 (by omega) b) (by rw [hn _ (by omega)]; intro ⟨a, b⟩; have := h9 a; omega)
  refine ⟨?_, ?_, r3⟩
  · rw [r1, show L - 1 + 1 = L by omega, valK_congr L (fun j hj => hn j hj), ← valFrom_zero]; exact i5
  · rw [r2]; omega

end Go.Proofs.Ytfoabnoolmeoiaa
