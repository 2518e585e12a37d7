/- The walk of almanaclaw2.CrcJoins. -/
import Derived.Test.YtendhldpgkdhnaaKnown2
import Derived.Test.YtendhldpgkdhnaaJoin
namespace Go.Proofs.Ytendhldpgkdhnaa
open Go.RowKit
theorem below_boxed {w w2 : World} {o : Obj} (h : Below (w.alloc o).heap.size (w.alloc o) w2) : Below w.heap.size w w2 := ((Below.refl w.heap.size w).alloc (Nat.le_refl _) o).trans (h.mono (by simp))
theorem rnum_of {s : Int} (h : (Lit.int .u32 s).wf = true) : ∃ x, s = rnum x := by
  obtain ⟨h1, h2⟩ := wf_u32_bd h
  exact ⟨BitVec.ofInt 32 s, (u32_ofInt s h1 h2).symm⟩
theorem joins_all (x y : BitVec 32) (n : Nat) (w : World) (hn : n ≤ 1000000) :
    Calls Try.prog 12 #[.int .u32 (rnum x), .int .u32 (rnum y), .int .i64 n] w fun e w' => e = .returned (.int .u32 (if n = 0 then rnum x else rnum (bsN (8 * n) x ^^^ y))) ∧ Below w.heap.size w w' := by
  by_cases h : n = 0
  · rw [if_pos h]
    refine (join_none x y n w (by omega)).mono ?_
    rintro e w' ⟨rfl, rfl⟩
    exact ⟨rfl, Below.refl _ _⟩
  · rw [if_neg h]
    exact join_any x y n w (by omega) hn
theorem joins_sum (la lb : List Int) (n : Nat) (h : lb.length = n) : (if n = 0 then rnum (sumB la) else rnum (bsN (8 * n) (sumB la) ^^^ sumB lb)) = rnum (sumB (la ++ lb)) := by
  subst h
  by_cases h : lb.length = 0
  · rw [if_pos h, List.eq_nil_of_length_eq_zero h, List.append_nil]
  · rw [if_neg h, sum_join]
set_option maxRecDepth 100000 in
set_option maxHeartbeats 1000000 in
theorem joins_in (aa : Option Addr) (na ca : Nat) (la : List Int) (ab : Option Addr) (nb cb : Nat) (lb : List Int) (x y : BitVec 32) (w : World) (ha : RdAt .u8 w aa na ca la) (hbb : RdAt .u8 w ab nb cb lb) (h1 : na ≤ 8192) (h2 : nb ≤ 8192) :
    Calls Try.prog 6 #[.slice aa na ca, .slice ab nb cb, .int .u32 (rnum x), .int .u32 (rnum y)] w fun e w' => e = .returned (.bool true) ∧ Below w.heap.size w w' := by
  have HS := Lib.hid (joins_sum la lb nb hbb.len)
  have hd1 : decide ((8192 : Int) < na) = false := decide_eq_false (by omega)
  have hd2 : decide ((8192 : Int) < nb) = false := decide_eq_false (by omega)
  go_enter Try.func6, Try.ntmps6
  go_wp2_with (go_at_call 9; refine (known2 _).mono ?_; rintro e w1 ⟨rfl, hb⟩)
  replace ha := ha.below hb
  replace hbb := hbb.below hb
  refine (sum_one _ _ la _ (PartsAt.one ha _)).mono ?_
  rintro e w2 ⟨rfl, hb2⟩
  replace hb2 := below_boxed hb2
  replace ha := ha.below hb2
  replace hbb := hbb.below hb2
  replace hb := hb.trans (hb2.mono hb.size)
  clear hb2
  go_wp2_with fail
  refine (sum_one _ _ lb _ (PartsAt.one hbb _)).mono ?_
  rintro e w3 ⟨rfl, hb2⟩
  replace hb2 := below_boxed hb2
  replace ha := ha.below hb2
  replace hbb := hbb.below hb2
  replace hb := hb.trans (hb2.mono hb.size)
  clear hb2
  go_wp2_with fail
  refine (joins_all _ _ _ _ (by omega)).mono ?_
  rintro e w4 ⟨he, hb2⟩
  rw [HS.out] at he
  subst he
  replace ha := ha.below hb2
  replace hbb := hbb.below hb2
  replace hb := hb.trans (hb2.mono hb.size)
  clear hb2
  go_wp2_with fail
  refine (sum_any _ _ _ _ _ (PartsAt.two ha hbb _) (by omega)).mono ?_
  rintro e w5 ⟨he, hb2⟩
  rw [show ([la, lb] : List (List Int)).flatten = la ++ lb by simp] at he
  subst he
  replace hb2 := below_boxed hb2
  replace hb := hb.trans (hb2.mono hb.size)
  clear hb2
  go_wp2_with (go_at_call 12; refine (join_none _ _ _ _ (by omega)).mono ?_; rintro e w6 ⟨rfl, rfl⟩)
  go_ret
  exact ⟨rfl, hb⟩
theorem crcJoins_walk (aa : Option Addr) (na ca : Nat) (la : List Int) (ab : Option Addr) (nb cb : Nat) (lb : List Int) (s t : Int) (w : World) (ha : RdAt .u8 w aa na ca la) (hbb : RdAt .u8 w ab nb cb lb) (hs : (Lit.int .u32 s).wf = true) (ht : (Lit.int .u32 t).wf = true) :
    Calls Try.prog 6 #[.slice aa na ca, .slice ab nb cb, .int .u32 s, .int .u32 t] w fun e w' => e = .returned (.bool true) ∧ Below w.heap.size w w' := by
  obtain ⟨x, rfl⟩ := rnum_of hs
  obtain ⟨y, rfl⟩ := rnum_of ht
  by_cases h1 : na ≤ 8192
  · by_cases h2 : nb ≤ 8192
    · exact joins_in aa na ca la ab nb cb lb x y w ha hbb h1 h2
    · have hd1 : decide ((8192 : Int) < na) = false := decide_eq_false (by omega)
      have hd2 : decide ((8192 : Int) < nb) = true := decide_eq_true (by omega)
      go_enter Try.func6, Try.ntmps6
      go_wp2_with (go_at_call 9; refine (known2 _).mono ?_; rintro e w1 ⟨rfl, hb⟩)
      go_ret
      exact ⟨rfl, hb⟩
  · have hd1 : decide ((8192 : Int) < na) = true := decide_eq_true (by omega)
    go_enter Try.func6, Try.ntmps6
    go_wp2_with (go_at_call 9; refine (known2 _).mono ?_; rintro e w1 ⟨rfl, hb⟩)
    go_ret
    exact ⟨rfl, hb⟩
end Go.Proofs.Ytendhldpgkdhnaa
