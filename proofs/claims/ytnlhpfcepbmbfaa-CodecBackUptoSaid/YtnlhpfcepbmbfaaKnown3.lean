/- The document's Frame and the chapter's example. -/
import Derived.Test.YtnlhpfcepbmbfaaFrame
import Derived.Lib.SlBytesConst
namespace Go.Proofs.Ytnlhpfcepbmbfaa
open Go.RowKit
theorem one_own (w : World) (k : Int) (hk : (Lit.int .u8 k).wf = true) : Owns .u8 5 (w.alloc (.cells #[.int .u8 k] 5)) w.heap.size (.slice (some ⟨w.heap.size, 0, none⟩) 1 1) [k] :=
  ⟨fun x hx => by simp at hx; subst hx; exact hk, .inr ⟨rfl, .inr ⟨w.heap.size, 1, _, rfl, Nat.le_refl _, heap_alloc_new _ _, Nat.le_refl _, by unfold maxLen; omega, rfl, rfl⟩⟩⟩
set_option maxRecDepth 100000 in
set_option maxHeartbeats 1000000 in
theorem refframe_any (k : Int) (a : Option Addr) (n c : Nat) (l : List Int) (w : World) (hk : (Lit.int .u8 k).wf = true) (h : RdAt .u8 w a n c l) (hn : n ≤ 1000000) :
    Calls Try.prog 13 #[.int .u8 k, .slice a n c] w (GivesBytes (frameL k l) w) := by
  have HL := Lib.hid h.len
  go_enter Try.func13, Try.ntmps13
  go_wp2_with fail
  refine (rput_any _ [k] _ _ _ w.heap.size (one_own w k hk) (by simp) (by simp) (by omega) (by omega) (by omega) (by omega)).mono ?_
  rintro e w1 ⟨r1, rfl, ho1, hg1⟩
  have hb1 : Below w.heap.size w w1 := ((Below.refl w.heap.size w).alloc (Nat.le_refl _) _).trans (hg1.below (by simp) (fun g hg => ((one_own w k hk).at_base g hg).1))
  replace h := h.below hb1
  obtain ⟨a1, c1, rfl⟩ := ho1.shapeN 5 (by rw [List.length_append, putL_len]; rfl)
  have hr1 := ho1.rd
  clear ho1 hg1
  go_wp2_with fail
  refine (refseal_any _ _ _ _ _ hr1 (by omega)).mono ?_
  rintro e w2 ⟨r2, rfl, ho2, hb2⟩
  replace h := h.below hb2
  obtain ⟨a2, c2, rfl⟩ := ho2.shapeN 9 (by rw [seal_len, List.length_append, putL_len]; rfl)
  clear hr1
  go_wp2_with fail
  refine (refseal_any _ _ _ _ _ h (by omega)).mono ?_
  rintro e w3 ⟨r3, rfl, ho3, hb3⟩
  have ho2' := ho2.below hb3
  obtain ⟨a3, c3, rfl⟩ := ho3.shapeN (n + 4) (by rw [seal_len, HL.out])
  have hr3 := ho3.rd
  have hsz := hb2.size
  have hsz3 := hb3.size
  have HX : Hid (sealL ([k] ++ putL (n : Int) (putN 4)) ++ sealL l = frameL k l) := by show _ = _; unfold frameL headL; rw [HL.out]; rfl
  generalize sealL ([k] ++ putL (n : Int) (putN 4)) = x at *
  have HL2 : Hid (x.length = 9) := by show _ = _; exact ho2'.rd.len
  go_wp2_with (at_builtin; refine app_all u8T u8I (by decide) rfl (.tmp 13) (.tmp 15) rfl _ w1.heap.size _ x rfl ho2' _ _ _ _ rfl hr3 (by rw [HL2.out]; omega) (by omega) ?_; intro v4 w4 ho4 hg4)
  go_ret
  rw [HX.out] at ho4
  have hB := (hb1.trans (hb2.mono hb1.size)).trans (hb3.mono (by have := hb1.size; omega))
  exact ⟨_, rfl, ho4.mono hb1.size, hB.trans ((hg4.below (base := w1.heap.size) (by omega) (fun g hg => (ho2'.at_base g hg).1)).mono hb1.size)⟩
set_option maxRecDepth 100000 in
set_option maxHeartbeats 1000000 in
theorem known3 (w : World) : Calls Try.prog 9 #[] w fun e w' => e = .returned (.bool true) ∧ Below w.heap.size w w' := by
  have kc := fun (w : World) (C : Array Value) (n c : Nat) => Lib.run_convert_bytes_const (P := Try.prog) w 22 5 C n c Try.underlying22 Try.underlying5
  have F1 : Hid ((frameL 1 []).length = 13) := by show _ = _; rw [frame_len]; rfl
  have F2 : Hid (([] : List Int) ++ varF 9 (zigI (-1)) ++ varF 9 (zigI ((1 : Nat) : Int)) ++ [97] = [1, 2, 97]) := by show _ = _; decide
  have hstr : strOfNums [1, 2, 97] = ⟨#[1, 2, 97]⟩ := by decide
  go_enter Try.func9, Try.ntmps9
  go_wp2_with fail
  refine (frame_any 1 none 0 0 [] _ (by decide) (RdAt.nil _ _) (by omega)).mono ?_
  rintro e w1 ⟨v1, rfl, ho1, hb⟩
  obtain ⟨a1, c1, rfl⟩ := ho1.shapeN 13 F1.out
  clear ho1
  go_wp2_with fail
  refine (newwriter_any _).mono ?_
  rintro e w2 ⟨rfl, ho2, hb2⟩
  have hsz1 := hb.size
  replace hb := hb.trans (hb2.mono hb.size)
  have hlt := ho2.lt
  go_wp2_with fail
  refine (wint_any _ _ _ _ _ ho2 (by simp) (by omega) (by omega)).mono ?_
  rintro e w3 ⟨rfl, ⟨v3, ho3, hn3⟩, hs3⟩
  have hsz3 := hs3.size
  have hB3 : Below w1.heap.size w2 w3 := hs3.below (by omega) (fun q hq => by cases hq)
  replace hb := hb.trans (hB3.mono hsz1)
  go_wp2_with fail
  have hr4 := lit_rd w3 _ [97] 5 (1, 2) (by decide) (by decide) (Below.refl _ _)
  have hB4 := (Below.refl w3.heap.size w3).alloc (Nat.le_refl _) (.cells (([97] : List Int).map (Value.int .u8)).toArray 5 (1, 2))
  have ho4 := ho3.below hB4
  have hat := ho3.own.at_base
  have hlt3 := ho3.lt
  refine (wbytes_any _ _ _ _ _ _ _ _ ho4 (by decide) hr4 (fun x hx _ => ?_)).mono ?_
  · injection hx with hx
    subst hx
    exact ⟨by simp; omega, fun e => by have := (hat w3.heap.size e.symm).2; omega⟩
  rintro e w5 ⟨rfl, ⟨v5, ho5, hn5⟩, hs5⟩
  have hB5 : Below w1.heap.size (w3.alloc (.cells (([97] : List Int).map (Value.int .u8)).toArray 5 (1, 2))) w5 := hs5.below (by simp; omega) (fun q hq => by have := (hat q hq).1; omega)
  replace hb := (hb.alloc (by have := hb.size; omega) (.cells (([97] : List Int).map (Value.int .u8)).toArray 5 (1, 2))).trans (hB5.mono hsz1)
  have ho6 : VarAt .u8 92 5 w5 w1.heap.size v5 [1, 2, 97] := by have h := ho5; rw [show (([] : List Int) ++ varF 9 (zigI (-1)) ++ varF 9 (zigI (([97] : List Int).length : Nat)) ++ [97]) = [1, 2, 97] from F2.out] at h; exact h
  clear ho5 ho4 ho3 ho2 hr4 hB4 hB5 hB3 hs3 hs5 hn5 hn3 hat
  go_wp2_with fail
  refine (wdone_any _ _ _ _ ho6 (by decide)).mono ?_
  rintro e w7 ⟨v7, rfl, ho7, hb7⟩
  obtain ⟨a7, c7, rfl⟩ := ho7.shapeN 3 rfl
  replace hb := hb.trans (hb7.mono hb.size)
  have k7 := conv_rd u8T s8 su ho7.rd
  clear ho7 ho6
  go_wp2_with fail
  go_ret
  exact ⟨rfl, hb⟩
end Go.Proofs.Ytnlhpfcepbmbfaa
