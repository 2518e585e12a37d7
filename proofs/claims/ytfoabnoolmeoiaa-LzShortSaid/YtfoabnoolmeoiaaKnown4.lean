/- The chapter's example. -/
import Derived.Test.YtfoabnoolmeoiaaRLzAll
import Derived.Test.YtfoabnoolmeoiaaStr
import Derived.Lib.SlBytesConst
namespace Go.Proofs.Ytfoabnoolmeoiaa
open Go.RowKit
theorem lit_rd4 (w : World) (e : Nat) : RdAt .u8 (w.alloc (.cells (([1, 6, 97, 98, 99, 11, 3] : List Int).map (Value.int .u8)).toArray e)) (some ⟨w.heap.size, 0, none⟩) 7 7 [1, 6, 97, 98, 99, 11, 3] := by
  have h := Owns.rd (k := .u8) (e := e) (w := w.alloc (.cells (([1, 6, 97, 98, 99, 11, 3] : List Int).map (Value.int .u8)).toArray e)) (base := w.heap.size) (a := some ⟨w.heap.size, 0, none⟩) (n := 7) (c := 7) (l := [1, 6, 97, 98, 99, 11, 3])
    ⟨by decide, .inr ⟨rfl, .inr ⟨w.heap.size, 7, _, rfl, Nat.le_refl _, heap_alloc_new _ _, Nat.le_refl _, by unfold maxLen; omega, rfl, rfl⟩⟩⟩
  exact h
set_option maxRecDepth 100000 in
set_option maxHeartbeats 1000000 in
theorem known4 (w : World) : Calls Try.prog 8 #[] w fun e w' => e = .returned (.bool true) ∧ Below w.heap.size w w' := by
  have kc := fun (w : World) (C : Array Value) (n c : Nat) => Lib.run_convert_bytes_const (P := Try.prog) w 22 5 C n c Try.underlying22 Try.underlying5
  have HT : Hid ((allT 10 [1, 6, 97, 98, 99, 11, 3]).e = 0 ∧ outT (allT 10 [1, 6, 97, 98, 99, 11, 3]) = [97, 98, 99, 97, 98, 99, 97, 98]) := by show _ ∧ _; decide +kernel
  have hstr : strOfNums [97, 98, 99, 97, 98, 99, 97, 98] = ⟨#[97, 98, 99, 97, 98, 99, 97, 98]⟩ := by decide
  go_enter Try.func8, Try.ntmps8
  go_wp2_with fail
  refine (unpack_any _ _ _ _ 10 10 _ (lit_rd4 w _) (by decide) (by decide)).mono ?_
  rintro e w1 ⟨⟨v1, rfl, ho1⟩, hb⟩
  rw [HT.out.1]
  rw [HT.out.2] at ho1
  obtain ⟨a1, c1, rfl⟩ := ho1.shapeN 8 rfl
  replace hb := ((Below.refl w.heap.size w).alloc (Nat.le_refl _) _).trans (hb.mono (by simp))
  have k7 := conv_rd u8T s8 su ho1.rd
  clear ho1
  go_wp2_with fail
  go_ret
  exact ⟨rfl, hb⟩
end Go.Proofs.Ytfoabnoolmeoiaa
