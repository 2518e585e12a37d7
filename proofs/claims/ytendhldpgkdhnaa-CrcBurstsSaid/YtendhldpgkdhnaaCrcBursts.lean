/- The walk of almanaclaw2.CrcBursts. -/
import Derived.Test.YtendhldpgkdhnaaKnown2
import Derived.Test.YtendhldpgkdhnaaSeal
namespace Go.Proofs.Ytendhldpgkdhnaa
open Go.RowKit
theorem rnum_of {s : Int} (h : (Lit.int .u32 s).wf = true) : ∃ x, s = rnum x := by
  obtain ⟨h1, h2⟩ := wf_u32_bd h
  exact ⟨BitVec.ofInt 32 s, (u32_ofInt s h1 h2).symm⟩
set_option maxRecDepth 100000 in
set_option maxHeartbeats 1000000 in
theorem bursts_in (aa : Option Addr) (na ca : Nat) (la : List Int) (bit : Int) (p : BitVec 32) (w : World) (ha : RdAt .u8 w aa na ca la) (h1 : na ≤ 8192) :
    Calls Try.prog 8 #[.slice aa na ca, .int .i64 bit, .int .u32 (rnum p)] w fun e w' => e = .returned (.bool true) ∧ Below w.heap.size w w' := by
  have hd1 : decide ((8192 : Int) < na) = false := decide_eq_false (by omega)
  have hby := ha.bytes
  have HL := Lib.hid ha.len
  have HSL := Lib.hid (seal_len la)
  have HTL := Lib.hid (burstV_len (sealL la) bit p)
  by_cases heq : burstV (sealL la) bit p = sealL la
  · have E1 : Hid (openE (sealL la) = 0) := by show _ = _; unfold openE; rw [if_neg (by rw [seal_len]; omega), open_seal]; rfl
    have E2 : Hid (openL (sealL la) = la) := by show _ = _; unfold openL; rw [if_pos (open_seal la), seal_take]
    have HEQ := Lib.hid heq
    clear heq
    go_enter Try.func8, Try.ntmps8
    go_wp2_with (go_at_call 9; refine (known2 _).mono ?_; rintro e w1 ⟨rfl, hb⟩)
    replace ha := ha.below hb
    refine (seal_any _ _ _ la _ ha (by omega)).mono ?_
    rintro e w2 ⟨v2, rfl, ho2, hb2⟩
    obtain ⟨a2, c2, rfl⟩ := ho2.shapeN (na + 4) (by rw [HSL.out, HL.out])
    replace ha := ha.below hb2
    replace hb := hb.trans (hb2.mono hb.size)
    have hs := ho2.rd
    clear ho2 hb2
    go_wp2_with fail
    refine (burst_any _ _ _ _ _ _ _ hs (by omega)).mono ?_
    rintro e w3 ⟨v3, rfl, ho3, hb3⟩
    rw [HEQ.out] at ho3
    obtain ⟨a3, c3, rfl⟩ := ho3.shapeN (na + 4) (by rw [HSL.out, HL.out])
    replace ha := ha.below hb3
    replace hs := hs.below hb3
    replace hb := hb.trans (hb3.mono hb.size)
    have ht := ho3.rd
    clear ho3 hb3
    go_wp2_with fail
    refine (open_any _ _ _ _ _ ht (by omega)).mono ?_
    rintro e w4 ⟨v4, he, ho4, hb4⟩
    rw [E1.out] at he
    subst he
    rw [E2.out] at ho4
    obtain ⟨a4, c4, rfl⟩ := ho4.shapeN na HL.out
    replace ha := ha.below hb4
    replace hs := hs.below hb4
    replace ht := ht.below hb4
    replace hb := hb.trans (hb4.mono hb.size)
    have hx := ho4.rd
    clear ho4 hb4
    have k1 := conv_rd u8T s8 su ha
    have k2 := conv_rd u8T s8 su hs
    have k3 := conv_rd u8T s8 su ht
    have k4 := conv_rd u8T s8 su hx
    clear ha hs ht hx
    go_wp2_with fail
    go_ret
    exact ⟨rfl, hb⟩
  · have hbt := burstV_bytes (seal_bytes hby) bit p
    have hno := burst_found (sealL la) (seal_bytes hby) bit p (st_sealed la) heq
    have E1 : Hid (openE (burstV (sealL la) bit p) = 23) := by show _ = _; unfold openE; rw [if_neg (by rw [burstV_len, seal_len]; omega), hno]; rfl
    have E2 : Hid (openL (burstV (sealL la) bit p) = []) := by show _ = _; unfold openL; rw [hno]; rfl
    have hne : ((strOfNums (sealL la)).toList == (strOfNums (burstV (sealL la) bit p)).toList) = false := by
      rw [beq_eq_false_iff_ne]
      exact fun h => heq (str_inj (seal_bytes hby) hbt h).symm
    clear heq hno hbt
    go_enter Try.func8, Try.ntmps8
    go_wp2_with (go_at_call 9; refine (known2 _).mono ?_; rintro e w1 ⟨rfl, hb⟩)
    replace ha := ha.below hb
    refine (seal_any _ _ _ la _ ha (by omega)).mono ?_
    rintro e w2 ⟨v2, rfl, ho2, hb2⟩
    obtain ⟨a2, c2, rfl⟩ := ho2.shapeN (na + 4) (by rw [HSL.out, HL.out])
    replace hb := hb.trans (hb2.mono hb.size)
    have hs := ho2.rd
    clear ho2 hb2
    go_wp2_with fail
    refine (burst_any _ _ _ _ _ _ _ hs (by omega)).mono ?_
    rintro e w3 ⟨v3, rfl, ho3, hb3⟩
    obtain ⟨a3, c3, rfl⟩ := ho3.shapeN (na + 4) (by rw [HTL.out, HSL.out, HL.out])
    replace hs := hs.below hb3
    replace hb := hb.trans (hb3.mono hb.size)
    have ht := ho3.rd
    clear ho3 hb3
    go_wp2_with fail
    refine (open_any _ _ _ _ _ ht (by omega)).mono ?_
    rintro e w4 ⟨v4, he, ho4, hb4⟩
    rw [E1.out] at he
    subst he
    rw [E2.out] at ho4
    obtain ⟨a4, c4, rfl⟩ := ho4.shapeN 0 rfl
    replace hs := hs.below hb4
    replace ht := ht.below hb4
    replace hb := hb.trans (hb4.mono hb.size)
    clear ho4 hb4
    have k2 := conv_rd u8T s8 su hs
    have k3 := conv_rd u8T s8 su ht
    clear hs ht
    go_wp2_with fail
    go_ret
    exact ⟨rfl, hb⟩
theorem crcBursts_walk (aa : Option Addr) (na ca : Nat) (la : List Int) (bit : Int) (p : Int) (w : World) (ha : RdAt .u8 w aa na ca la) (_ : (Lit.int .i64 bit).wf = true) (hp : (Lit.int .u32 p).wf = true) :
    Calls Try.prog 8 #[.slice aa na ca, .int .i64 bit, .int .u32 p] w fun e w' => e = .returned (.bool true) ∧ Below w.heap.size w w' := by
  obtain ⟨x, rfl⟩ := rnum_of hp
  by_cases h1 : na ≤ 8192
  · exact bursts_in aa na ca la bit x w ha h1
  · have hd1 : decide ((8192 : Int) < na) = true := decide_eq_true (by omega)
    go_enter Try.func8, Try.ntmps8
    go_wp2_with (go_at_call 9; refine (known2 _).mono ?_; rintro e w1 ⟨rfl, hb⟩)
    go_ret
    exact ⟨rfl, hb⟩
end Go.Proofs.Ytendhldpgkdhnaa
