/- What the reader's all comes to. No program in sight, but for the reader's block. -/
import Derived.Test.YtfoabnoolmeoiaaLzToken
namespace Go.Proofs.Ytfoabnoolmeoiaa
open Go.RowKit
theorem tokO_sum {x o : List Int} {most : Int} (h : tokE x o most = 0) : ((tokO x o).length : Int) = o.length + tokL x + tokC x ∧ 0 ≤ tokL x ∧ 0 ≤ tokC x := by
  have hv := rvV_bd x x.length
  unfold tokE at h
  split at h
  · rename_i hc; exact absurd h hc
  · split at h
    · omega
    · unfold tokO tokL tokC
      split
      · rw [copyN_len]; omega
      · rename_i hodd
        rw [if_neg hodd] at h
        split at h
        · omega
        · split at h
          · omega
          · rw [List.length_append, List.length_take]; omega
theorem toks_nil (most : Int) (f : Nat) (o : List Int) (l c : Int) : toks most f [] o l c = ⟨0, [], o, l, c⟩ := by
  cases f with
  | zero => rfl
  | succ f => rw [toks, if_pos rfl]
theorem toks_bad {most : Int} {f : Nat} {x o : List Int} {l c : Int} (hx : x.length ≠ 0) (hf : x.length ≤ f) (h : tokE x o most ≠ 0) : toks most f x o l c = ⟨tokE x o most, x, o, l, c⟩ := by
  obtain ⟨f, rfl⟩ : ∃ f', f = f' + 1 := ⟨f - 1, by omega⟩
  rw [toks, if_neg (fun e => hx (by rw [e]; rfl)), if_pos h]
theorem toks_good {most : Int} {f : Nat} {x o : List Int} {l c : Int} (hx : x.length ≠ 0) (h : tokE x o most = 0) :
    toks most (f + 1) x o l c = toks most f (tokX x) (tokO x o) (l + tokL x) (c + tokC x) := by
  rw [toks, if_neg (fun e => hx (by rw [e]; rfl)), if_neg (by simpa using h)]
/-- What all comes to, from a reader that has told nothing yet. -/
def allT (most : Int) (x : List Int) : Tok :=
  if x.length = 0 then ⟨21, x, [], 0, 0⟩
  else if nth x 0 = 0 then (if most < ((x.length - 1 : Nat) : Int) then ⟨24, x, [], 0, 0⟩ else ⟨0, [], x.drop 1, ((x.length - 1 : Nat) : Int), 0⟩)
  else if nth x 0 = 1 then toks most (x.length - 1) (x.drop 1) [] 0 0 else ⟨22, x, [], 0, 0⟩
/-- How many bytes a reader holds. -/
def bLen (w : World) (h : Nat) : Nat :=
  match w.cell? ⟨h, 0, none⟩ with
  | some (.slice _ n _) => n
  | _ => 0
theorem RdrAt.bLen {w : World} {h : Nat} {a : Option Addr} {n c : Nat} {x : List Int} {v : Value} {o : List Int} {most lit cop : Int} (r : RdrAt w h a n c x v o most lit cop) : bLen w h = n := by
  unfold Go.Proofs.Ytfoabnoolmeoiaa.bLen
  rw [(cells5 r.row).1]
end Go.Proofs.Ytfoabnoolmeoiaa
