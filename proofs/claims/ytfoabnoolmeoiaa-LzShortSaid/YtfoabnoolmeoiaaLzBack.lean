/- The walk of almanaclaw4.LzBack. -/
import Derived.Test.YtfoabnoolmeoiaaKnown4
import Derived.Test.YtfoabnoolmeoiaaLzPack
namespace Go.Proofs.Ytfoabnoolmeoiaa
open Go.RowKit
theorem pk_outT {b p : List Int} {M : Int} (h : PkOut b p) (hM : M = (b.length : Int)) : outT (allT M p) = b ∧ (allT M p).e = 0 := by
  subst hM
  unfold outT
  rw [if_pos h.e]
  exact ⟨h.o, h.e⟩
set_option linter.unusedSimpArgs false in
set_option linter.unusedVariables false in
set_option maxRecDepth 100000 in
set_option maxHeartbeats 2000000 in
theorem lzBack_walk (a : Option Addr) (n c : Nat) (x : List Int) (w : World) (h : RdAt .u8 w a n c x) :
    Calls Try.prog 6 #[.slice a n c] w fun e w' => e = .returned (.bool true) ∧ Below w.heap.size w w' := by
  have H := Lib.hid h
  have HX := Lib.hid h.len
  clear h
  by_cases hn : 8192 < n
  · have hd1 : decide ((8192 : Int) < n) = true := decide_eq_true (by omega)
    go_enter Try.func6, Try.ntmps6
    go_wp2_with (go_at_call 8; refine (known4 _).mono ?_; rintro e w1 ⟨rfl, hb⟩)
    go_ret
    exact ⟨rfl, hb⟩
  · have hd1 : decide ((8192 : Int) < n) = false := decide_eq_false (by omega)
    have hM : max (n : Int) 0 = n := by omega
    go_enter Try.func6, Try.ntmps6
    go_wp2_with (go_at_call 8; refine (known4 _).mono ?_; rintro e w1 ⟨rfl, hb⟩)
    refine (pack_any a n c x _ (H.out.below hb) (by omega)).mono ?_
    rintro e w2 ⟨⟨r, p, rfl, op, hp⟩, hb2⟩
    replace hb := Below.call hb hb2
    clear hb2
    obtain ⟨lp, hlp⟩ : ∃ q, p.length = q := ⟨_, rfl⟩
    obtain ⟨ap, cp, rfl⟩ := op.shapeN lp hlp
    obtain ⟨hT, hE⟩ := pk_outT (M := (n : Int)) hp.out (by rw [HX.out])
    have HT := Lib.hid hT
    have HE := Lib.hid hE
    have dle : decide ((lp : Int) ≤ (n : Int) + 1) = true := decide_eq_true (by have := hp.out.le; have := HX.out; omega)
    have hrp := Lib.hid op.rd
    clear op hT hE hlp
    go_wp2_with fail
    refine (unpack_any _ _ _ _ _ (n : Int) _ hrp.out hM (by omega)).mono ?_
    rintro e w3 ⟨⟨v3, hee, o3⟩, hb3⟩
    rw [HE.out] at hee
    subst hee
    rw [HT.out] at o3
    obtain ⟨a3, c3, rfl⟩ := o3.shapeN n HX.out
    have hrp2 := Lib.hid (hrp.out.below hb3)
    replace hb := Below.call hb hb3
    clear hb3
    go_wp2_with fail
    refine (refunpack_any _ _ _ _ _ _ hrp2.out (by omega) (by omega)).mono ?_
    rintro e w4 ⟨⟨v4, hee, o4⟩, hb4⟩
    rw [HE.out] at hee
    obtain ⟨lt, hlt⟩ : ∃ q, litT (allT (n : Int) p) = q := ⟨_, rfl⟩
    rw [hlt] at hee
    subst hee
    rw [HT.out] at o4
    obtain ⟨a4, c4, rfl⟩ := o4.shapeN n HX.out
    have k3 := conv_rd u8T s8 su (o3.below hb4).rd
    have k4 := conv_rd u8T s8 su o4.rd
    replace hb := Below.call hb hb4
    have k0 := conv_rd u8T s8 su (H.out.below hb)
    clear hb4 o3 o4 hlt
    go_wp2_with fail
    go_ret
    exact ⟨rfl, hb⟩
end Go.Proofs.Ytfoabnoolmeoiaa
