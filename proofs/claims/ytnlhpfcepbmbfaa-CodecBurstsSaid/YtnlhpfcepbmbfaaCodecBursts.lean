/- The walk of almanaclaw3.CodecBursts. -/
import Derived.Test.YtnlhpfcepbmbfaaKnown3
import Derived.Test.YtnlhpfcepbmbfaaFrameLaw
import Derived.Test.YtnlhpfcepbmbfaaRBurst
namespace Go.Proofs.Ytnlhpfcepbmbfaa
open Go.RowKit
theorem rnum_of {s : Int} (h : (Lit.int .u32 s).wf = true) : ∃ x, s = rnum x := by
  obtain ⟨h1, h2⟩ := wf_u32_bd h
  exact ⟨BitVec.ofInt 32 s, (u32_ofInt s h1 h2).symm⟩
set_option maxRecDepth 100000 in
set_option maxHeartbeats 2000000 in
theorem cb_head_same (k : Int) (ap : Option Addr) (np cp : Nat) (lp : List Int) (bit : Int) (p : BitVec 32) (w : World) (hk : (Lit.int .u8 k).wf = true) (hp : RdAt .u8 w ap np cp lp) (h1 : np ≤ 8192) (hsame : burstV (sealL (headL k np)) bit p = sealL (headL k np)) :
    Calls Try.prog 4 #[.int .u8 k, .slice ap np cp, .int .i64 bit, .int .u32 (rnum p), .bool true] w fun e w' => e = .returned (.bool true) ∧ Below w.heap.size w w' := by
  have hd1 : decide ((8192 : Int) < np) = false := decide_eq_false (by omega)
  have HL := Lib.hid hp.len
  have hbyp := hp.bytes
  have hkb := wf_u8_bd hk
  have HA : Hid ((frameL k lp).take 9 = sealL (headL k np)) := by show _ = _; unfold frameL; rw [head_take, hp.len]
  have HB : Hid ((frameL k lp).drop 9 = sealL lp) := by show _ = _; unfold frameL; rw [head_drop]
  have HF : Hid (frameL k lp = sealL (headL k np) ++ sealL lp) := by show _ = _; unfold frameL; rw [hp.len]
  have HG : Hid (burstV (sealL (headL k np)) bit p ++ sealL lp = frameL k lp) := by show _ = _; rw [hsame, HF.out]
  have HE : Hid (frameE (frameL k lp) = 0) := by show _ = _; exact read_whole k lp (by have := HL.out; omega)
  clear hsame hkb
  go_enter Try.func4, Try.ntmps4
  go_wp2_with (go_at_call 9; refine (known3 _).mono ?_; rintro e w1 ⟨rfl, hb⟩)
  replace hp := hp.below hb
  refine (frame_any k _ _ _ lp _ hk hp (by omega)).mono ?_
  rintro e w2 ⟨v2, rfl, ho2, hb2⟩
  replace hb := hb.trans (hb2.mono hb.size)
  have hsw := hb.size
  obtain ⟨a2, c2, rfl⟩ := ho2.shapeN (13 + np) (by rw [frame_len, HL.out])
  obtain ⟨g, rfl, _, hgs, _, _⟩ := ho2.cellAt 0 (by rw [frame_len]; omega)
  have hf := ho2.rd
  have hcp := hf.cap
  have hmx := hf.max
  unfold maxLen at hmx
  have hfa : RdAt .u8 w2 (some ⟨g, 0, none⟩) 9 c2 (sealL (headL k np)) := by have h := RdAt.take hf 9 (by omega); rwa [HA.out] at h
  have hfb : RdAt .u8 w2 (some ⟨g, 9, none⟩) (13 + np - 9) (c2 - 9) (sealL lp) := by have h := hf.drop 9 (by omega); rw [HB.out] at h; rwa [Nat.zero_add] at h
  clear ho2
  go_wp2_with (first | (at_builtin; refine app_all u8T u8I (by decide) rfl (.tmp 33) (.tmp 35) rfl _ w2.heap.size _ [] rfl (Owns.empty _ _ _ _ _ _) _ _ _ _ rfl (hfa.below ((Below.refl _ _).alloc (Nat.le_refl _) _)) (by simp) (by simp) ?_; intro v3 w3 ho3 hg3; have hB3 := hg3.fromEmpty; rw [List.nil_append] at ho3; obtain ⟨a3, c3, rfl⟩ := ho3.shapeN 9 (by rw [sealed_head_len]); have hfb3 := hfb.below hB3) | (at_builtin; refine app_all u8T u8I (by decide) rfl (.tmp 37) (.tmp 39) rfl _ w3.heap.size _ [] rfl (Owns.empty _ _ _ _ _ _) _ _ _ _ rfl (hfb3.below ((Below.refl _ _).alloc (Nat.le_refl _) _)) (by simp; omega) (by simp) ?_; intro v4 w4 ho4 hg4; have hB4 := hg4.fromEmpty; rw [List.nil_append] at ho4; obtain ⟨a4, c4, rfl⟩ := ho4.shapeN (np + 4) (by rw [seal_len, HL.out])))
  replace ho3 := ho3.below hB4
  have hf4 := (hf.below hB3).below hB4
  replace hb := (hb.trans (hB3.mono hb.size))
  replace hb := (hb.trans (hB4.mono hb.size))
  have hs3 := hB3.size
  have hs4 := hB4.size
  clear hf hfa hfb hfb3 hB3 hB4 hg3 hg4
  refine (refburst_any _ _ _ _ bit p _ ho3.rd (by omega)).mono ?_
  rintro e w5 ⟨v5, rfl, ho5, hb5⟩
  have ho4' := ho4.below hb5
  obtain ⟨a5, c5, rfl⟩ := ho5.shapeN 9 (by rw [burstV_len, sealed_head_len])
  have hs5 := hb5.size
  replace hb := hb.trans (hb5.mono hb.size)
  have hf5 := hf4.below hb5
  clear hf4 ho3 ho4 hb5
  have HXL : Hid ((burstV (sealL (headL k np)) bit p).length = 9) := by show _ = _; exact (ho5).rd.len
  go_wp2_with (at_builtin; refine app_all u8T u8I (by decide) rfl (.tmp 50) (.tmp 51) rfl _ (w4.heap.size) _ _ rfl ho5 _ _ _ _ rfl (ho4'.rd) (by rw [HXL.out]; omega) (by omega) ?_; intro v6 w6 ho6 hg6; obtain ⟨a6, c6, rfl⟩ := ho6.shapeN (np + 13) (by rw [List.length_append, HXL.out, (ho4'.rd).len]; omega))
  have hb6 : Below (w4.heap.size) w5 w6 := hg6.below (by omega) (fun g hg => ((ho5).at_base g hg).1)
  have hf6 : RdAt .u8 w6 _ _ _ _ := hf5.grown hg6.1 (fun x hx e => by injection hx with hx; subst hx; have := ((ho5).at_base g e.symm).1; omega)
  replace hb := hb.trans (hb6.mono (by omega))
  rw [HG.out] at ho6
  have hr6 := ho6.rd
  refine (readframe_any _ _ _ _ _ hr6 (by omega)).mono ?_
  rintro e w7 ⟨v7, rfl, ho7, hb7⟩
  replace hb := hb.trans (hb7.mono hb.size)
  have k1 := conv_rd u8T s8 su (hf6.below hb7)
  have k2 := conv_rd u8T s8 su (hr6.below hb7)
  rw [HE.out]
  obtain ⟨a7, c7, rfl⟩ := ho7.shape
  clear ho6 ho7 hf5 hf6 hr6
  go_wp2_with fail
  go_ret
  exact ⟨rfl, hb⟩
set_option maxRecDepth 100000 in
set_option maxHeartbeats 2000000 in
theorem cb_head_off (k : Int) (ap : Option Addr) (np cp : Nat) (lp : List Int) (bit : Int) (p : BitVec 32) (w : World) (hk : (Lit.int .u8 k).wf = true) (hp : RdAt .u8 w ap np cp lp) (h1 : np ≤ 8192) (hsame : burstV (sealL (headL k np)) bit p ≠ sealL (headL k np)) :
    Calls Try.prog 4 #[.int .u8 k, .slice ap np cp, .int .i64 bit, .int .u32 (rnum p), .bool true] w fun e w' => e = .returned (.bool true) ∧ Below w.heap.size w w' := by
  have hd1 : decide ((8192 : Int) < np) = false := decide_eq_false (by omega)
  have HL := Lib.hid hp.len
  have hbyp := hp.bytes
  have hkb := wf_u8_bd hk
  have HA : Hid ((frameL k lp).take 9 = sealL (headL k np)) := by show _ = _; unfold frameL; rw [head_take, hp.len]
  have HB : Hid ((frameL k lp).drop 9 = sealL lp) := by show _ = _; unfold frameL; rw [head_drop]
  have HF : Hid (frameL k lp = sealL (headL k np) ++ sealL lp) := by show _ = _; unfold frameL; rw [hp.len]
  have HE0 : frameE (burstV (sealL (headL k np)) bit p ++ sealL lp) = 23 := burst_head hkb np (sealL lp) bit p hsame
  have HE := Lib.hid HE0
  obtain ⟨q1, q2, q3⟩ := frame_bad HE0 (by omega)
  have HP := Lib.hid q1
  have HN := Lib.hid q3
  clear HE0 q1 q2 q3
  have HNE : Hid (((strOfNums (frameL k lp)).toList == (strOfNums (burstV (sealL (headL k np)) bit p ++ sealL lp)).toList) = false) := by
    show _ = _
    rw [beq_eq_false_iff_ne]
    intro h
    have h2 := str_inj (frame_bytes hkb hbyp) (fun x hx => by
      rcases List.mem_append.1 hx with hx | hx
      · exact burstV_bytes (seal_bytes (head_bytes hkb np)) bit p x hx
      · exact seal_bytes hbyp x hx) h
    rw [HF.out] at h2
    exact hsame (List.append_cancel_right h2).symm
  clear hsame hkb
  go_enter Try.func4, Try.ntmps4
  go_wp2_with (go_at_call 9; refine (known3 _).mono ?_; rintro e w1 ⟨rfl, hb⟩)
  replace hp := hp.below hb
  refine (frame_any k _ _ _ lp _ hk hp (by omega)).mono ?_
  rintro e w2 ⟨v2, rfl, ho2, hb2⟩
  replace hb := hb.trans (hb2.mono hb.size)
  have hsw := hb.size
  obtain ⟨a2, c2, rfl⟩ := ho2.shapeN (13 + np) (by rw [frame_len, HL.out])
  obtain ⟨g, rfl, _, hgs, _, _⟩ := ho2.cellAt 0 (by rw [frame_len]; omega)
  have hf := ho2.rd
  have hcp := hf.cap
  have hmx := hf.max
  unfold maxLen at hmx
  have hfa : RdAt .u8 w2 (some ⟨g, 0, none⟩) 9 c2 (sealL (headL k np)) := by have h := RdAt.take hf 9 (by omega); rwa [HA.out] at h
  have hfb : RdAt .u8 w2 (some ⟨g, 9, none⟩) (13 + np - 9) (c2 - 9) (sealL lp) := by have h := hf.drop 9 (by omega); rw [HB.out] at h; rwa [Nat.zero_add] at h
  clear ho2
  go_wp2_with (first | (at_builtin; refine app_all u8T u8I (by decide) rfl (.tmp 33) (.tmp 35) rfl _ w2.heap.size _ [] rfl (Owns.empty _ _ _ _ _ _) _ _ _ _ rfl (hfa.below ((Below.refl _ _).alloc (Nat.le_refl _) _)) (by simp) (by simp) ?_; intro v3 w3 ho3 hg3; have hB3 := hg3.fromEmpty; rw [List.nil_append] at ho3; obtain ⟨a3, c3, rfl⟩ := ho3.shapeN 9 (by rw [sealed_head_len]); have hfb3 := hfb.below hB3) | (at_builtin; refine app_all u8T u8I (by decide) rfl (.tmp 37) (.tmp 39) rfl _ w3.heap.size _ [] rfl (Owns.empty _ _ _ _ _ _) _ _ _ _ rfl (hfb3.below ((Below.refl _ _).alloc (Nat.le_refl _) _)) (by simp; omega) (by simp) ?_; intro v4 w4 ho4 hg4; have hB4 := hg4.fromEmpty; rw [List.nil_append] at ho4; obtain ⟨a4, c4, rfl⟩ := ho4.shapeN (np + 4) (by rw [seal_len, HL.out])))
  replace ho3 := ho3.below hB4
  have hf4 := (hf.below hB3).below hB4
  replace hb := (hb.trans (hB3.mono hb.size))
  replace hb := (hb.trans (hB4.mono hb.size))
  have hs3 := hB3.size
  have hs4 := hB4.size
  clear hf hfa hfb hfb3 hB3 hB4 hg3 hg4
  refine (refburst_any _ _ _ _ bit p _ ho3.rd (by omega)).mono ?_
  rintro e w5 ⟨v5, rfl, ho5, hb5⟩
  have ho4' := ho4.below hb5
  obtain ⟨a5, c5, rfl⟩ := ho5.shapeN 9 (by rw [burstV_len, sealed_head_len])
  have hs5 := hb5.size
  replace hb := hb.trans (hb5.mono hb.size)
  have hf5 := hf4.below hb5
  clear hf4 ho3 ho4 hb5
  have HXL : Hid ((burstV (sealL (headL k np)) bit p).length = 9) := by show _ = _; exact (ho5).rd.len
  go_wp2_with (at_builtin; refine app_all u8T u8I (by decide) rfl (.tmp 50) (.tmp 51) rfl _ (w4.heap.size) _ _ rfl ho5 _ _ _ _ rfl (ho4'.rd) (by rw [HXL.out]; omega) (by omega) ?_; intro v6 w6 ho6 hg6; obtain ⟨a6, c6, rfl⟩ := ho6.shapeN (np + 13) (by rw [List.length_append, HXL.out, (ho4'.rd).len]; omega))
  have hb6 : Below (w4.heap.size) w5 w6 := hg6.below (by omega) (fun g hg => ((ho5).at_base g hg).1)
  have hf6 : RdAt .u8 w6 _ _ _ _ := hf5.grown hg6.1 (fun x hx e => by injection hx with hx; subst hx; have := ((ho5).at_base g e.symm).1; omega)
  replace hb := hb.trans (hb6.mono (by omega))
  have hr6 := ho6.rd
  refine (readframe_any _ _ _ _ _ hr6 (by omega)).mono ?_
  rintro e w7 ⟨v7, rfl, ho7, hb7⟩
  replace hb := hb.trans (hb7.mono hb.size)
  have k1 := conv_rd u8T s8 su (hf6.below hb7)
  have k2 := conv_rd u8T s8 su (hr6.below hb7)
  rw [HP.out] at ho7
  rw [HE.out, HN.out]
  obtain ⟨a7, c7, rfl⟩ := ho7.shapeN 0 rfl
  have hne := HNE.out
  clear ho6 ho7 hf5 hf6 hr6
  go_wp2_with fail
  go_ret
  exact ⟨rfl, hb⟩
set_option maxRecDepth 100000 in
set_option maxHeartbeats 2000000 in
theorem cb_tail_same (k : Int) (ap : Option Addr) (np cp : Nat) (lp : List Int) (bit : Int) (p : BitVec 32) (w : World) (hk : (Lit.int .u8 k).wf = true) (hp : RdAt .u8 w ap np cp lp) (h1 : np ≤ 8192) (hsame : burstV (sealL lp) bit p = sealL lp) :
    Calls Try.prog 4 #[.int .u8 k, .slice ap np cp, .int .i64 bit, .int .u32 (rnum p), .bool false] w fun e w' => e = .returned (.bool true) ∧ Below w.heap.size w w' := by
  have hd1 : decide ((8192 : Int) < np) = false := decide_eq_false (by omega)
  have HL := Lib.hid hp.len
  have hbyp := hp.bytes
  have hkb := wf_u8_bd hk
  have HA : Hid ((frameL k lp).take 9 = sealL (headL k np)) := by show _ = _; unfold frameL; rw [head_take, hp.len]
  have HB : Hid ((frameL k lp).drop 9 = sealL lp) := by show _ = _; unfold frameL; rw [head_drop]
  have HF : Hid (frameL k lp = sealL (headL k np) ++ sealL lp) := by show _ = _; unfold frameL; rw [hp.len]
  have HG : Hid (sealL (headL k np) ++ burstV (sealL lp) bit p = frameL k lp) := by show _ = _; rw [hsame, HF.out]
  have HE : Hid (frameE (frameL k lp) = 0) := by show _ = _; exact read_whole k lp (by have := HL.out; omega)
  clear hsame hkb
  go_enter Try.func4, Try.ntmps4
  go_wp2_with (go_at_call 9; refine (known3 _).mono ?_; rintro e w1 ⟨rfl, hb⟩)
  replace hp := hp.below hb
  refine (frame_any k _ _ _ lp _ hk hp (by omega)).mono ?_
  rintro e w2 ⟨v2, rfl, ho2, hb2⟩
  replace hb := hb.trans (hb2.mono hb.size)
  have hsw := hb.size
  obtain ⟨a2, c2, rfl⟩ := ho2.shapeN (13 + np) (by rw [frame_len, HL.out])
  obtain ⟨g, rfl, _, hgs, _, _⟩ := ho2.cellAt 0 (by rw [frame_len]; omega)
  have hf := ho2.rd
  have hcp := hf.cap
  have hmx := hf.max
  unfold maxLen at hmx
  have hfa : RdAt .u8 w2 (some ⟨g, 0, none⟩) 9 c2 (sealL (headL k np)) := by have h := RdAt.take hf 9 (by omega); rwa [HA.out] at h
  have hfb : RdAt .u8 w2 (some ⟨g, 9, none⟩) (13 + np - 9) (c2 - 9) (sealL lp) := by have h := hf.drop 9 (by omega); rw [HB.out] at h; rwa [Nat.zero_add] at h
  clear ho2
  go_wp2_with (first | (at_builtin; refine app_all u8T u8I (by decide) rfl (.tmp 33) (.tmp 35) rfl _ w2.heap.size _ [] rfl (Owns.empty _ _ _ _ _ _) _ _ _ _ rfl (hfa.below ((Below.refl _ _).alloc (Nat.le_refl _) _)) (by simp) (by simp) ?_; intro v3 w3 ho3 hg3; have hB3 := hg3.fromEmpty; rw [List.nil_append] at ho3; obtain ⟨a3, c3, rfl⟩ := ho3.shapeN 9 (by rw [sealed_head_len]); have hfb3 := hfb.below hB3) | (at_builtin; refine app_all u8T u8I (by decide) rfl (.tmp 37) (.tmp 39) rfl _ w3.heap.size _ [] rfl (Owns.empty _ _ _ _ _ _) _ _ _ _ rfl (hfb3.below ((Below.refl _ _).alloc (Nat.le_refl _) _)) (by simp; omega) (by simp) ?_; intro v4 w4 ho4 hg4; have hB4 := hg4.fromEmpty; rw [List.nil_append] at ho4; obtain ⟨a4, c4, rfl⟩ := ho4.shapeN (np + 4) (by rw [seal_len, HL.out])))
  replace ho3 := ho3.below hB4
  have hf4 := (hf.below hB3).below hB4
  replace hb := (hb.trans (hB3.mono hb.size))
  replace hb := (hb.trans (hB4.mono hb.size))
  have hs3 := hB3.size
  have hs4 := hB4.size
  clear hf hfa hfb hfb3 hB3 hB4 hg3 hg4
  refine (refburst_any _ _ _ _ bit p _ ho4.rd (by omega)).mono ?_
  rintro e w5 ⟨v5, rfl, ho5, hb5⟩
  have ho3' := ho3.below hb5
  obtain ⟨a5, c5, rfl⟩ := ho5.shapeN (np + 4) (by rw [burstV_len, seal_len, HL.out])
  have hs5 := hb5.size
  replace hb := hb.trans (hb5.mono hb.size)
  have hf5 := hf4.below hb5
  clear hf4 ho3 ho4 hb5
  have HXL : Hid ((sealL (headL k np)).length = 9) := by show _ = _; exact (ho3').rd.len
  go_wp2_with (at_builtin; refine app_all u8T u8I (by decide) rfl (.tmp 50) (.tmp 51) rfl _ (w2.heap.size) _ _ rfl ho3' _ _ _ _ rfl (ho5.rd) (by rw [HXL.out]; omega) (by omega) ?_; intro v6 w6 ho6 hg6; obtain ⟨a6, c6, rfl⟩ := ho6.shapeN (np + 13) (by rw [List.length_append, HXL.out, (ho5.rd).len]; omega))
  have hb6 : Below (w2.heap.size) w5 w6 := hg6.below (by omega) (fun g hg => ((ho3').at_base g hg).1)
  have hf6 : RdAt .u8 w6 _ _ _ _ := hf5.grown hg6.1 (fun x hx e => by injection hx with hx; subst hx; have := ((ho3').at_base g e.symm).1; omega)
  replace hb := hb.trans (hb6.mono (by omega))
  rw [HG.out] at ho6
  have hr6 := ho6.rd
  refine (readframe_any _ _ _ _ _ hr6 (by omega)).mono ?_
  rintro e w7 ⟨v7, rfl, ho7, hb7⟩
  replace hb := hb.trans (hb7.mono hb.size)
  have k1 := conv_rd u8T s8 su (hf6.below hb7)
  have k2 := conv_rd u8T s8 su (hr6.below hb7)
  rw [HE.out]
  obtain ⟨a7, c7, rfl⟩ := ho7.shape
  clear ho6 ho7 hf5 hf6 hr6
  go_wp2_with fail
  go_ret
  exact ⟨rfl, hb⟩
set_option maxRecDepth 100000 in
set_option maxHeartbeats 2000000 in
theorem cb_tail_off (k : Int) (ap : Option Addr) (np cp : Nat) (lp : List Int) (bit : Int) (p : BitVec 32) (w : World) (hk : (Lit.int .u8 k).wf = true) (hp : RdAt .u8 w ap np cp lp) (h1 : np ≤ 8192) (hsame : burstV (sealL lp) bit p ≠ sealL lp) :
    Calls Try.prog 4 #[.int .u8 k, .slice ap np cp, .int .i64 bit, .int .u32 (rnum p), .bool false] w fun e w' => e = .returned (.bool true) ∧ Below w.heap.size w w' := by
  have hd1 : decide ((8192 : Int) < np) = false := decide_eq_false (by omega)
  have HL := Lib.hid hp.len
  have hbyp := hp.bytes
  have hkb := wf_u8_bd hk
  have HA : Hid ((frameL k lp).take 9 = sealL (headL k np)) := by show _ = _; unfold frameL; rw [head_take, hp.len]
  have HB : Hid ((frameL k lp).drop 9 = sealL lp) := by show _ = _; unfold frameL; rw [head_drop]
  have HF : Hid (frameL k lp = sealL (headL k np) ++ sealL lp) := by show _ = _; unfold frameL; rw [hp.len]
  have HE0 : frameE (sealL (headL k np) ++ burstV (sealL lp) bit p) = 23 := (by have h := burst_tail k hbyp (by have := HL.out; omega) bit p hsame; rwa [HL.out] at h)
  have HE := Lib.hid HE0
  obtain ⟨q1, q2, q3⟩ := frame_bad HE0 (by omega)
  have HP := Lib.hid q1
  have HN := Lib.hid q3
  clear HE0 q1 q2 q3
  have HNE : Hid (((strOfNums (frameL k lp)).toList == (strOfNums (sealL (headL k np) ++ burstV (sealL lp) bit p)).toList) = false) := by
    show _ = _
    rw [beq_eq_false_iff_ne]
    intro h
    have h2 := str_inj (frame_bytes hkb hbyp) (fun x hx => by
      rcases List.mem_append.1 hx with hx | hx
      · exact seal_bytes (head_bytes hkb np) x hx
      · exact burstV_bytes (seal_bytes hbyp) bit p x hx) h
    rw [HF.out] at h2
    exact hsame (List.append_cancel_left h2).symm
  clear hsame hkb
  go_enter Try.func4, Try.ntmps4
  go_wp2_with (go_at_call 9; refine (known3 _).mono ?_; rintro e w1 ⟨rfl, hb⟩)
  replace hp := hp.below hb
  refine (frame_any k _ _ _ lp _ hk hp (by omega)).mono ?_
  rintro e w2 ⟨v2, rfl, ho2, hb2⟩
  replace hb := hb.trans (hb2.mono hb.size)
  have hsw := hb.size
  obtain ⟨a2, c2, rfl⟩ := ho2.shapeN (13 + np) (by rw [frame_len, HL.out])
  obtain ⟨g, rfl, _, hgs, _, _⟩ := ho2.cellAt 0 (by rw [frame_len]; omega)
  have hf := ho2.rd
  have hcp := hf.cap
  have hmx := hf.max
  unfold maxLen at hmx
  have hfa : RdAt .u8 w2 (some ⟨g, 0, none⟩) 9 c2 (sealL (headL k np)) := by have h := RdAt.take hf 9 (by omega); rwa [HA.out] at h
  have hfb : RdAt .u8 w2 (some ⟨g, 9, none⟩) (13 + np - 9) (c2 - 9) (sealL lp) := by have h := hf.drop 9 (by omega); rw [HB.out] at h; rwa [Nat.zero_add] at h
  clear ho2
  go_wp2_with (first | (at_builtin; refine app_all u8T u8I (by decide) rfl (.tmp 33) (.tmp 35) rfl _ w2.heap.size _ [] rfl (Owns.empty _ _ _ _ _ _) _ _ _ _ rfl (hfa.below ((Below.refl _ _).alloc (Nat.le_refl _) _)) (by simp) (by simp) ?_; intro v3 w3 ho3 hg3; have hB3 := hg3.fromEmpty; rw [List.nil_append] at ho3; obtain ⟨a3, c3, rfl⟩ := ho3.shapeN 9 (by rw [sealed_head_len]); have hfb3 := hfb.below hB3) | (at_builtin; refine app_all u8T u8I (by decide) rfl (.tmp 37) (.tmp 39) rfl _ w3.heap.size _ [] rfl (Owns.empty _ _ _ _ _ _) _ _ _ _ rfl (hfb3.below ((Below.refl _ _).alloc (Nat.le_refl _) _)) (by simp; omega) (by simp) ?_; intro v4 w4 ho4 hg4; have hB4 := hg4.fromEmpty; rw [List.nil_append] at ho4; obtain ⟨a4, c4, rfl⟩ := ho4.shapeN (np + 4) (by rw [seal_len, HL.out])))
  replace ho3 := ho3.below hB4
  have hf4 := (hf.below hB3).below hB4
  replace hb := (hb.trans (hB3.mono hb.size))
  replace hb := (hb.trans (hB4.mono hb.size))
  have hs3 := hB3.size
  have hs4 := hB4.size
  clear hf hfa hfb hfb3 hB3 hB4 hg3 hg4
  refine (refburst_any _ _ _ _ bit p _ ho4.rd (by omega)).mono ?_
  rintro e w5 ⟨v5, rfl, ho5, hb5⟩
  have ho3' := ho3.below hb5
  obtain ⟨a5, c5, rfl⟩ := ho5.shapeN (np + 4) (by rw [burstV_len, seal_len, HL.out])
  have hs5 := hb5.size
  replace hb := hb.trans (hb5.mono hb.size)
  have hf5 := hf4.below hb5
  clear hf4 ho3 ho4 hb5
  have HXL : Hid ((sealL (headL k np)).length = 9) := by show _ = _; exact (ho3').rd.len
  go_wp2_with (at_builtin; refine app_all u8T u8I (by decide) rfl (.tmp 50) (.tmp 51) rfl _ (w2.heap.size) _ _ rfl ho3' _ _ _ _ rfl (ho5.rd) (by rw [HXL.out]; omega) (by omega) ?_; intro v6 w6 ho6 hg6; obtain ⟨a6, c6, rfl⟩ := ho6.shapeN (np + 13) (by rw [List.length_append, HXL.out, (ho5.rd).len]; omega))
  have hb6 : Below (w2.heap.size) w5 w6 := hg6.below (by omega) (fun g hg => ((ho3').at_base g hg).1)
  have hf6 : RdAt .u8 w6 _ _ _ _ := hf5.grown hg6.1 (fun x hx e => by injection hx with hx; subst hx; have := ((ho3').at_base g e.symm).1; omega)
  replace hb := hb.trans (hb6.mono (by omega))
  have hr6 := ho6.rd
  refine (readframe_any _ _ _ _ _ hr6 (by omega)).mono ?_
  rintro e w7 ⟨v7, rfl, ho7, hb7⟩
  replace hb := hb.trans (hb7.mono hb.size)
  have k1 := conv_rd u8T s8 su (hf6.below hb7)
  have k2 := conv_rd u8T s8 su (hr6.below hb7)
  rw [HP.out] at ho7
  rw [HE.out, HN.out]
  obtain ⟨a7, c7, rfl⟩ := ho7.shapeN 0 rfl
  have hne := HNE.out
  clear ho6 ho7 hf5 hf6 hr6
  go_wp2_with fail
  go_ret
  exact ⟨rfl, hb⟩
theorem codecBursts_walk (k : Int) (ap : Option Addr) (np cp : Nat) (lp : List Int) (bit : Int) (p : Int) (hd : Bool) (w : World) (hk : (Lit.int .u8 k).wf = true) (hp : RdAt .u8 w ap np cp lp) (_ : (Lit.int .i64 bit).wf = true) (hpp : (Lit.int .u32 p).wf = true) :
    Calls Try.prog 4 #[.int .u8 k, .slice ap np cp, .int .i64 bit, .int .u32 p, .bool hd] w fun e w' => e = .returned (.bool true) ∧ Below w.heap.size w w' := by
  obtain ⟨x, rfl⟩ := rnum_of hpp
  by_cases h1 : np ≤ 8192
  · cases hd with
    | true =>
      by_cases hs : burstV (sealL (headL k np)) bit x = sealL (headL k np)
      · exact cb_head_same k ap np cp lp bit x w hk hp h1 hs
      · exact cb_head_off k ap np cp lp bit x w hk hp h1 hs
    | false =>
      by_cases hs : burstV (sealL lp) bit x = sealL lp
      · exact cb_tail_same k ap np cp lp bit x w hk hp h1 hs
      · exact cb_tail_off k ap np cp lp bit x w hk hp h1 hs
  · have hd1 : decide ((8192 : Int) < np) = true := decide_eq_true (by omega)
    go_enter Try.func4, Try.ntmps4
    go_wp2_with (go_at_call 9; refine (known3 _).mono ?_; rintro e w1 ⟨rfl, hb⟩)
    go_ret
    exact ⟨rfl, hb⟩
end Go.Proofs.Ytnlhpfcepbmbfaa
