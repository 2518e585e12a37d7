/- The walk of almanaclaw3.CodecFronts. -/
import Derived.Test.YtnlhpfcepbmbfaaKnown3
import Derived.Test.YtnlhpfcepbmbfaaFrameLaw
namespace Go.Proofs.Ytnlhpfcepbmbfaa
open Go.RowKit
/-- A slice that was there at w0 reads as it did, where only what came later has turned. -/
theorem RdAt.below' {kd : IntKind} {w0 w w' : World} {a : Option Addr} {n c : Nat} {l : List Int} (h : RdAt kd w a n c l) (hb : Below w0.heap.size w w') (h0 : RdAt kd w0 a n c l) : RdAt kd w' a n c l :=
  ⟨h.len, h.cap, h.max, fun i hi => by
    obtain ⟨b, o, e, hc⟩ := h.cell i hi
    obtain ⟨b2, o2, e2, hc2⟩ := h0.cell i hi
    rw [e] at e2
    injection e2 with e2
    injection e2 with e3 e4
    subst e3 e4
    exact ⟨b, o, e, by rw [hb.cell (block_lt_of_cell hc2)]; exact hc⟩, h.wf, h.void⟩
set_option linter.unusedSimpArgs false in
set_option linter.unusedVariables false in
set_option maxRecDepth 100000 in
set_option maxHeartbeats 2000000 in
theorem fronts_up (k : Int) (ap : Option Addr) (np cp : Nat) (lp : List Int) (x : Int) (am : Option Addr) (nm cm : Nat) (lm : List Int) (w : World) (hk : (Lit.int .u8 k).wf = true) (hp : RdAt .u8 w ap np cp lp) (hr : RdAt .u8 w am nm cm lm) (h1 : np ≤ 8192) (h2 : nm ≤ 8192) (q : Nat) (hm : x.tmod (13 + (np : Int)) = q) :
    Calls Try.prog 5 #[.int .u8 k, .slice ap np cp, .int .i64 x, .slice am nm cm] w fun e w' => e = .returned (.bool true) ∧ Below w.heap.size w w' := by
  have hd1 : decide ((8192 : Int) < np) = false := decide_eq_false (by omega)
  have hd2 : decide ((8192 : Int) < nm) = false := decide_eq_false (by omega)
  have HL := Lib.hid hp.len
  have HM := Lib.hid hr.len
  obtain ⟨r1, r2, _, r4⟩ := read_frame k lp lm (by rw [hp.len]; omega)
  have E2 := Lib.hid r1
  have P2 := Lib.hid r2
  have N2 : Hid (frameN (frameL k lp ++ lm) = 13 + (np : Int)) := by show _ = _; rw [r4, hp.len]
  clear r1 r2 r4
  have hnz : ¬ (13 + (np : Int) = 0) := by omega
  have hq1 := Int.tmod_lt_of_pos x (show 0 < 13 + (np : Int) by omega)
  rw [hm] at hq1
  have hq0 : (q : Int) < 13 + np := by omega
  have HE1 : frameE ((frameL k lp).take q) = 21 := read_front k lp (by have := HL.out; omega) q (by rw [HL.out]; omega)
  obtain ⟨q1, q2, q3⟩ := frame_bad HE1 (by omega)
  have E1 := Lib.hid HE1
  have P1 := Lib.hid q1
  have N1 := Lib.hid q3
  clear HE1 q1 q2 q3
  go_enter Try.func5, Try.ntmps5
  go_wp2_with (go_at_call 9; refine (known3 _).mono ?_; rintro e w1 ⟨rfl, hb⟩)
  replace hp := hp.below hb
  replace hr := hr.below hb
  refine (frame_any k _ _ _ lp _ hk hp (by omega)).mono ?_
  rintro e w2 ⟨v2, rfl, ho2, hb2⟩
  replace hb := hb.trans (hb2.mono hb.size)
  replace hp := hp.below hb2
  replace hr := hr.below hb2
  obtain ⟨a2, c2, rfl⟩ := ho2.shapeN (13 + np) (by rw [frame_len, HL.out])
  obtain ⟨g, rfl, _, hgs, _, _⟩ := ho2.cellAt 0 (by rw [frame_len]; omega)
  have hf := ho2.rd
  have hcp := hf.cap
  have hmx := hf.max
  unfold maxLen at hmx
  have hqc : q ≤ c2 := by omega
  have hfa := RdAt.take hf q (by omega)
  clear ho2
  go_wp2_with fail
  refine (readframe_any _ _ _ _ _ hfa (by omega)).mono ?_
  rintro e w3 ⟨v3, rfl, ho3, hb3⟩
  rw [P1.out] at ho3
  rw [E1.out, N1.out]
  obtain ⟨a3, c3, rfl⟩ := ho3.shapeN 0 rfl
  replace hb := hb.trans (hb3.mono hb.size)
  replace hp := hp.below hb3
  replace hr := hr.below hb3
  have hf3 := hf.below hb3
  have hs3 := hb.size
  clear ho3 hb3 hfa hf
  go_wp2_with (first | (at_builtin; refine app_all u8T u8I (by decide) rfl (.tmp 54) (.tmp 55) rfl _ w3.heap.size _ [] rfl (Owns.empty _ _ _ _ _ _) _ _ _ _ rfl (hf3.below ((Below.refl _ _).alloc (Nat.le_refl _) _)) (by simp; omega) (by simp) ?_; intro v4 w4 ho4 hg4; have hB4 := hg4.fromEmpty; rw [List.nil_append] at ho4; obtain ⟨a4, c4, rfl⟩ := ho4.shapeN (13 + np) (by rw [frame_len, HL.out]); have hs4 := hB4.size; have hr4 := hr.below hB4) | (at_builtin; refine app_all u8T u8I (by decide) rfl (.tmp 56) (.tmp 57) rfl _ w3.heap.size _ _ rfl ho4 _ _ _ _ rfl hr4 (by rw [frame_len, HL.out]; omega) (by omega) ?_; intro v5 w5 ho5 hg5; obtain ⟨a5, c5, rfl⟩ := ho5.shapeN (13 + np + nm) (by rw [List.length_append, frame_len, HL.out, HM.out])))
  have hb5 : Below w3.heap.size w4 w5 := hg5.below (by omega) (fun g hg => (ho4.at_base g hg).1)
  replace hb := hb.trans (hB4.mono hb.size)
  replace hb := hb.trans (hb5.mono hs3)
  have hp5 : RdAt .u8 w5 ap np cp lp := (hp.below hB4).below' hb5 hp
  refine (readframe_any _ _ _ _ _ ho5.rd (by omega)).mono ?_
  rintro e w6 ⟨v6, rfl, ho6, hb6⟩
  rw [E2.out, N2.out]
  rw [P2.out] at ho6
  obtain ⟨a6, c6, rfl⟩ := ho6.shapeN np HL.out
  replace hb := hb.trans (hb6.mono hb.size)
  have k1 := conv_rd u8T s8 su ho6.rd
  have k2 := conv_rd u8T s8 su (hp5.below hb6)
  clear ho6 ho5 ho4 hp5 hp hr hr4 hf3
  go_wp2_with fail
  go_ret
  exact ⟨rfl, hb⟩
set_option linter.unusedSimpArgs false in
set_option linter.unusedVariables false in
set_option maxRecDepth 100000 in
set_option maxHeartbeats 2000000 in
theorem fronts_down (k : Int) (ap : Option Addr) (np cp : Nat) (lp : List Int) (x : Int) (am : Option Addr) (nm cm : Nat) (lm : List Int) (w : World) (hk : (Lit.int .u8 k).wf = true) (hp : RdAt .u8 w ap np cp lp) (hr : RdAt .u8 w am nm cm lm) (h1 : np ≤ 8192) (h2 : nm ≤ 8192) (m : Int) (q : Nat) (hm : x.tmod (13 + (np : Int)) = m) (hm0 : m < 0) (hmq : m + (13 + (np : Int)) = q) :
    Calls Try.prog 5 #[.int .u8 k, .slice ap np cp, .int .i64 x, .slice am nm cm] w fun e w' => e = .returned (.bool true) ∧ Below w.heap.size w w' := by
  have hd1 : decide ((8192 : Int) < np) = false := decide_eq_false (by omega)
  have hd2 : decide ((8192 : Int) < nm) = false := decide_eq_false (by omega)
  have HL := Lib.hid hp.len
  have HM := Lib.hid hr.len
  obtain ⟨r1, r2, _, r4⟩ := read_frame k lp lm (by rw [hp.len]; omega)
  have E2 := Lib.hid r1
  have P2 := Lib.hid r2
  have N2 : Hid (frameN (frameL k lp ++ lm) = 13 + (np : Int)) := by show _ = _; rw [r4, hp.len]
  clear r1 r2 r4
  have hnz : ¬ (13 + (np : Int) = 0) := by omega
  have hq0 : (q : Int) < 13 + np := by omega
  have HE1 : frameE ((frameL k lp).take q) = 21 := read_front k lp (by have := HL.out; omega) q (by rw [HL.out]; omega)
  obtain ⟨q1, q2, q3⟩ := frame_bad HE1 (by omega)
  have E1 := Lib.hid HE1
  have P1 := Lib.hid q1
  have N1 := Lib.hid q3
  clear HE1 q1 q2 q3
  go_enter Try.func5, Try.ntmps5
  go_wp2_with (go_at_call 9; refine (known3 _).mono ?_; rintro e w1 ⟨rfl, hb⟩)
  replace hp := hp.below hb
  replace hr := hr.below hb
  refine (frame_any k _ _ _ lp _ hk hp (by omega)).mono ?_
  rintro e w2 ⟨v2, rfl, ho2, hb2⟩
  replace hb := hb.trans (hb2.mono hb.size)
  replace hp := hp.below hb2
  replace hr := hr.below hb2
  obtain ⟨a2, c2, rfl⟩ := ho2.shapeN (13 + np) (by rw [frame_len, HL.out])
  obtain ⟨g, rfl, _, hgs, _, _⟩ := ho2.cellAt 0 (by rw [frame_len]; omega)
  have hf := ho2.rd
  have hcp := hf.cap
  have hmx := hf.max
  unfold maxLen at hmx
  have hqc : q ≤ c2 := by omega
  have hfa := RdAt.take hf q (by omega)
  clear ho2
  go_wp2_with fail
  refine (readframe_any _ _ _ _ _ hfa (by omega)).mono ?_
  rintro e w3 ⟨v3, rfl, ho3, hb3⟩
  rw [P1.out] at ho3
  rw [E1.out, N1.out]
  obtain ⟨a3, c3, rfl⟩ := ho3.shapeN 0 rfl
  replace hb := hb.trans (hb3.mono hb.size)
  replace hp := hp.below hb3
  replace hr := hr.below hb3
  have hf3 := hf.below hb3
  have hs3 := hb.size
  clear ho3 hb3 hfa hf
  go_wp2_with (first | (at_builtin; refine app_all u8T u8I (by decide) rfl (.tmp 54) (.tmp 55) rfl _ w3.heap.size _ [] rfl (Owns.empty _ _ _ _ _ _) _ _ _ _ rfl (hf3.below ((Below.refl _ _).alloc (Nat.le_refl _) _)) (by simp; omega) (by simp) ?_; intro v4 w4 ho4 hg4; have hB4 := hg4.fromEmpty; rw [List.nil_append] at ho4; obtain ⟨a4, c4, rfl⟩ := ho4.shapeN (13 + np) (by rw [frame_len, HL.out]); have hs4 := hB4.size; have hr4 := hr.below hB4) | (at_builtin; refine app_all u8T u8I (by decide) rfl (.tmp 56) (.tmp 57) rfl _ w3.heap.size _ _ rfl ho4 _ _ _ _ rfl hr4 (by rw [frame_len, HL.out]; omega) (by omega) ?_; intro v5 w5 ho5 hg5; obtain ⟨a5, c5, rfl⟩ := ho5.shapeN (13 + np + nm) (by rw [List.length_append, frame_len, HL.out, HM.out])))
  have hb5 : Below w3.heap.size w4 w5 := hg5.below (by omega) (fun g hg => (ho4.at_base g hg).1)
  replace hb := hb.trans (hB4.mono hb.size)
  replace hb := hb.trans (hb5.mono hs3)
  have hp5 : RdAt .u8 w5 ap np cp lp := (hp.below hB4).below' hb5 hp
  refine (readframe_any _ _ _ _ _ ho5.rd (by omega)).mono ?_
  rintro e w6 ⟨v6, rfl, ho6, hb6⟩
  rw [E2.out, N2.out]
  rw [P2.out] at ho6
  obtain ⟨a6, c6, rfl⟩ := ho6.shapeN np HL.out
  replace hb := hb.trans (hb6.mono hb.size)
  have k1 := conv_rd u8T s8 su ho6.rd
  have k2 := conv_rd u8T s8 su (hp5.below hb6)
  clear ho6 ho5 ho4 hp5 hp hr hr4 hf3
  go_wp2_with fail
  go_ret
  exact ⟨rfl, hb⟩
theorem codecFronts_walk (k : Int) (ap : Option Addr) (np cp : Nat) (lp : List Int) (x : Int) (am : Option Addr) (nm cm : Nat) (lm : List Int) (w : World) (hk : (Lit.int .u8 k).wf = true) (hp : RdAt .u8 w ap np cp lp) (_ : (Lit.int .i64 x).wf = true) (hr : RdAt .u8 w am nm cm lm) :
    Calls Try.prog 5 #[.int .u8 k, .slice ap np cp, .int .i64 x, .slice am nm cm] w fun e w' => e = .returned (.bool true) ∧ Below w.heap.size w w' := by
  by_cases h1 : np ≤ 8192
  · have hd1 : decide ((8192 : Int) < np) = false := decide_eq_false (by omega)
    by_cases h2 : nm ≤ 8192
    · by_cases h0 : 0 ≤ x.tmod (13 + (np : Int))
      · obtain ⟨q, hq⟩ := Int.eq_ofNat_of_zero_le h0
        exact fronts_up k ap np cp lp x am nm cm lm w hk hp hr h1 h2 q hq
      · have hgt := Int.lt_tmod_of_pos x (show 0 < 13 + (np : Int) by omega)
        obtain ⟨q, hq⟩ := Int.eq_ofNat_of_zero_le (show 0 ≤ x.tmod (13 + (np : Int)) + (13 + (np : Int)) by omega)
        exact fronts_down k ap np cp lp x am nm cm lm w hk hp hr h1 h2 _ q rfl (by omega) hq
    · have hd2 : decide ((8192 : Int) < nm) = true := decide_eq_true (by omega)
      go_enter Try.func5, Try.ntmps5
      go_wp2_with (go_at_call 9; refine (known3 _).mono ?_; rintro e w1 ⟨rfl, hb⟩)
      go_ret
      exact ⟨rfl, hb⟩
  · have hd1 : decide ((8192 : Int) < np) = true := decide_eq_true (by omega)
    go_enter Try.func5, Try.ntmps5
    go_wp2_with (go_at_call 9; refine (known3 _).mono ?_; rintro e w1 ⟨rfl, hb⟩)
    go_ret
    exact ⟨rfl, hb⟩
end Go.Proofs.Ytnlhpfcepbmbfaa
