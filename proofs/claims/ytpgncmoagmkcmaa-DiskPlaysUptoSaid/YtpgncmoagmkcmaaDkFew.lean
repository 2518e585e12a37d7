/- disk: few, data. -/
import Derived.Test.YtpgncmoagmkcmaaActs
import Derived.Test.YtpgncmoagmkcmaaDkK
import Derived.BigQuiet
import Derived.Deep.QuietTactic
namespace Go.Proofs.Ytpgncmoagmkcmaa
open Go.RowKit
theorem RdB.below {w w' : World} {a : Option Addr} {n c : Nat} {l : List Bool} (r : RdB w a n c l) (h : Below w.heap.size w w') : RdB w' a n c l :=
  r.kept (fun x hx hn => h.block x.block (r.lt x hx hn))
theorem ActAt.below {w w' : World} {b off : Nat} {A : ActP} (h : ActAt w b off A) (hb : Below w.heap.size w w') : ActAt w' b off A := by
  obtain ⟨⟨ba, bn, bc, ka, kn, kc, c0, c1, c2, c3, c4, c5, c6, hr, hk⟩, hwf⟩ := h
  have hc : ∀ (i : Nat) (v : Value), w.cell? ⟨b, i, none⟩ = some v → w'.cell? ⟨b, i, none⟩ = some v := fun i v hv => by
    rw [← hv]; exact World.cell?_of_block (a := ⟨b, i, none⟩) (hb.block b (block_lt_of_cell hv))
  exact ⟨⟨ba, bn, bc, ka, kn, kc, hc _ _ c0, hc _ _ c1, hc _ _ c2, hc _ _ c3, hc _ _ c4, hc _ _ c5, hc _ _ c6, hr.below hb, hk.below hb⟩, hwf⟩
theorem ActsAt.below {w w' : World} {a : Option Addr} {n : Nat} {L : List ActP} (h : ActsAt w a n L) (hb : Below w.heap.size w w') : ActsAt w' a n L :=
  ⟨h.len, fun i A hA => by
    obtain ⟨b, o, e, hx⟩ := h.at_ i A hA
    exact ⟨b, o, e, hx.below hb⟩⟩
theorem sumA_take : ∀ {L : List ActP} {k : Nat} {A : ActP}, L[k]? = some A → sumA (L.take (k + 1)) = sumA (L.take k) + (A.bytes.length + A.keep.length) ∧ sumA (L.take (k + 1)) ≤ sumA L
  | [], _, _, h => by simp at h
  | B :: L, 0, A, h => by
    simp at h
    subst h
    simp [sumA]
  | B :: L, k + 1, A, h => by
    have := sumA_take (L := L) (k := k) (A := A) (by simpa using h)
    rw [List.take_succ_cons, List.take_succ_cons]
    simp only [sumA]
    omega
def fewB (L : List ActP) : Bool := decide ((L.length : Int) ≤ 200) && decide ((sumA L : Int) ≤ 32768)
set_option linter.unusedSimpArgs false in
set_option linter.unusedVariables false in
set_option maxRecDepth 100000 in
set_option maxHeartbeats 2000000 in
theorem belowD {B : Nat} {a w : World} (h : Below B a w) (n : Nat) : Below B a (w.drewN n) := ⟨h.os, h.tape, h.output, h.size, h.block⟩
theorem few_any (a : Option Addr) (n c : Nat) (L : List ActP) (w : World) (h : ActsAt w a n L) (hb : sumA L + n ≤ 1048576) : Calls Try.prog 19 #[.slice a n c] w fun e w' => e = .returned (.bool (fewB L)) ∧ Below w.heap.size w w' := by
  have H := Lib.hid h
  have HL := Lib.hid h.len
  clear h
  have hE : fewB L = (decide ((n : Int) ≤ 200) && decide ((sumA L : Int) ≤ 32768)) := by unfold fewB; rw [HL.out]
  rw [hE]
  clear hE
  go_enter Try.func19, Try.ntmps19
  go_wp2_with fail
  go_loopw [3, 4] (fun x i wr => ∃ k : Nat, k ≤ n ∧ i = .int .i64 k ∧ x = .int .i64 (sumA (L.take k)) ∧ Hid (Below w.heap.size w wr)) (fun _ i _ => n - (intOf i).toNat)
  case atStart => exact ⟨0, by omega, rfl, rfl, Below.refl _ _⟩
  case round =>
    obtain ⟨k, hk, rfl, rfl, hB⟩ := hrel
    by_cases hkm : k < n
    · have dkm : decide ((k : Int) < n) = true := decide_eq_true (by omega)
      obtain ⟨A, hA⟩ : ∃ A, L[k]? = some A := ⟨_, List.getElem?_eq_getElem (by rw [HL.out]; exact hkm)⟩
      obtain ⟨b, o, rfl, hat⟩ := (H.out.below hB.out).at_ k A hA
      obtain ⟨⟨ba, bn, bc, ka, kn, kc, c0, c1, c2, c3, c4, c5, c6, hr, hkb⟩, hwf⟩ := hat
      obtain ⟨s1, s2⟩ := sumA_take hA
      rw [hr.len, hkb.len] at s1
      obtain ⟨S, hS⟩ : ∃ S, sumA (L.take k) = S := ⟨_, rfl⟩
      rw [hS] at s1
      have w1 : IntKind.i64.wrap ((S : Int) + bn) = (S : Int) + bn := by rw [IntKind.wrap_i64]; omega
      have w2 : IntKind.i64.wrap ((S : Int) + bn + kn) = (S : Int) + bn + kn := by rw [IntKind.wrap_i64]; omega
      have S1 := Lib.hid s1
      rw [hS]
      clear hA hr hkb hwf s1 s2 hS c0 c1 c2 c4 c6
      go_wp2_with fail
      go_quiet (fail)
      go_wp2_with fail
      go_roundw
      case rel => exact ⟨k + 1, by omega, by go_num, by rw [S1.out]; go_num, belowD hB.out _⟩
      case measure => simp [intOf] <;> omega
    · obtain rfl : k = n := by omega
      have ht : L.take k = L := by rw [← HL.out]; exact List.take_length
      rw [ht]
      clear ht
      cases h1 : decide ((k : Int) ≤ 200) with
      | true =>
        go_wp2_with fail
        go_ret
        exact ⟨by rw [h1]; rfl, hB.out⟩
      | false =>
        go_wp2_with fail
        go_ret
        exact ⟨by rw [h1]; rfl, hB.out⟩
end Go.Proofs.Ytpgncmoagmkcmaa
