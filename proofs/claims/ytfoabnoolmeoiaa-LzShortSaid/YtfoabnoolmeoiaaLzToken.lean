/- lz's token: all that it answers. -/
import Derived.Test.YtfoabnoolmeoiaaLzTok
import Derived.Test.YtfoabnoolmeoiaaLzLit
import Derived.Test.YtfoabnoolmeoiaaLzErrA
import Derived.Test.YtfoabnoolmeoiaaLzErrB
namespace Go.Proofs.Ytfoabnoolmeoiaa
open Go.RowKit
theorem leadF_top (x : List Int) (n : Nat) : ∀ f k, leadF x n f k ≤ f + k
  | 0, k => by unfold leadF; omega
  | f + 1, k => by
    have := leadF_top x n f (k + 1)
    unfold leadF
    split <;> omega
theorem rvV_lt (x : List Int) (n : Nat) (h0 : 0 ≤ nth x 9) : rvV x n ≤ 18446744073709551615 := by
  unfold rvV
  split
  · rename_i he
    have hl : lead x n ≤ 10 := leadF_top x n 10 0
    unfold rvE at he
    split at he
    · omega
    · rename_i hf
      have hf2 : ¬ (lead x n = 10 ∨ (lead x n ≠ n ∧ ((0 < lead x n ∧ nth x (lead x n) = 0) ∨ (lead x n = 9 ∧ 1 < nth x 9)))) := fun h => hf (by unfold rvForm; exact decide_eq_true h)
      have hn : lead x n ≠ n := by
        intro h
        rw [if_pos h] at he
        omega
      by_cases h9 : lead x n = 9
      · have h1 : nth x 9 ≤ 1 := by omega
        have := valFrom_top x 9 0 (by rw [Nat.zero_add]; omega)
        rw [valFrom_zero] at this
        rw [h9]
        have e : (2 : Int) ^ (7 * 9 + 1) = 18446744073709551616 := by decide
        omega
      · have h8 : lead x n ≤ 8 := by omega
        have h2 := (valK_bd x (lead x n + 1)).2
        have h3 : (2 : Int) ^ (7 * (lead x n + 1)) ≤ 2 ^ 63 := by
          have : (2 : Nat) ^ (7 * (lead x n + 1)) ≤ 2 ^ 63 := Nat.pow_le_pow_right (by omega) (by omega)
          exact_mod_cast this
        have e : (2 : Int) ^ 63 = 9223372036854775808 := by decide
        omega
  · omega
theorem nth_pos (x : List Int) (h : ∀ y ∈ x, (Lit.int .u8 y).wf = true) (i : Nat) : 0 ≤ nth x i := by
  by_cases hi : i < x.length
  · rw [nth_eq hi]
    exact (wf_u8_bd (h _ (List.getElem_mem hi))).1
  · rw [nth_out (by omega)]; omega
set_option maxRecDepth 100000 in
theorem token_any (h : Nat) (a : Option Addr) (n c : Nat) (x : List Int) (v : Value) (o : List Int) (most lit cop : Int) (w : World) (r : RdrAt w h a n c x v o most lit cop)
    (ho : (o.length : Int) ≤ most) (hmm : most ≤ 2097152) (hl0 : 0 ≤ lit) (hl1 : lit ≤ 2097152) (hc0 : 0 ≤ cop) (hc1 : cop ≤ 2097152) :
    Calls Try.prog 19 #[.pointer (some ⟨h, 0, none⟩)] w fun e w' => e = .returned (.int .i64 (tokE x o most)) ∧ Below h w w' ∧
      (tokE x o most = 0 → ∃ a' c' v', RdrAt w' h a' (tokX x).length c' (tokX x) v' (tokO x o) most (lit + tokL x) (cop + tokC x)) := by
  obtain rfl : x.length = n := r.rd.len
  have hlen : x.length - (rvN x x.length).toNat = (restV x).length := by unfold restV; rw [List.length_drop]
  have hv0 := rvV_bd x x.length
  have hv1 := rvV_lt x x.length (nth_pos x r.rd.wf 9)
  have bad : ∀ (q : Int), tokE x o most = q → q ≠ 0 → Calls Try.prog 19 #[.pointer (some ⟨h, 0, none⟩)] w (fun e w' => e = .returned (.int .i64 q) ∧ Below h w w') → Calls Try.prog 19 #[.pointer (some ⟨h, 0, none⟩)] w fun e w' => e = .returned (.int .i64 (tokE x o most)) ∧ Below h w w' ∧
      (tokE x o most = 0 → ∃ a' c' v', RdrAt w' h a' (tokX x).length c' (tokX x) v' (tokO x o) most (lit + tokL x) (cop + tokC x)) := by
    intro q hq hq0 hc
    refine hc.mono ?_
    rintro e w' ⟨rfl, hb⟩
    exact ⟨by rw [hq], hb, fun h0 => absurd (hq.symm.trans h0) hq0⟩
  by_cases h1 : rvE x x.length = 0
  · by_cases hk : rvV x x.length / 2 = 0
    · exact bad 22 (by unfold tokE; rw [if_neg (by simpa using h1), if_pos hk]) (by decide) (tok_e2 h a _ c x v o most lit cop w r _ h1 rfl hv0 (by omega))
    · obtain ⟨k, hkk⟩ := Int.eq_ofNat_of_zero_le (show 0 ≤ rvV x x.length / 2 by omega)
      by_cases hodd : rvV x x.length % 2 = 1
      · have hv : rvV x x.length = 2 * (k : Int) + 1 := by omega
        by_cases h2 : rvE (restV x) (restV x).length = 0
        · obtain ⟨d, hd⟩ := Int.eq_ofNat_of_zero_le (rvV_bd (restV x) (restV x).length)
          have hd1 := rvV_lt (restV x) (restV x).length (nth_pos _ (fun y hy => r.rd.wf y (List.mem_of_mem_drop hy)) 9)
          by_cases hdz : rvV (restV x) (restV x).length = 0 ∨ (o.length : Int) < rvV (restV x) (restV x).length
          · refine bad 22 (by unfold tokE; rw [if_neg (by simpa using h1), if_neg hk, if_pos hodd, if_neg (by simpa using h2), if_pos hdz]) (by decide) ?_
            by_cases hd0 : d = 0
            · exact tok_e4a h a _ c x v o most lit cop w r k h1 hv (by omega) (by omega) (restV x) _ rfl hlen d h2 hd (by omega) hd0
            · exact tok_e4b h a _ c x v o most lit cop w r k h1 hv (by omega) (by omega) (restV x) _ rfl hlen d h2 hd (by omega) (by omega) (by omega) (by omega)
          · by_cases hm : most - (o.length : Int) < rvV x x.length / 2
            · exact bad 24 (by unfold tokE; rw [if_neg (by simpa using h1), if_neg hk, if_pos hodd, if_neg (by simpa using h2), if_neg hdz, if_pos hm]) (by decide)
                (tok_e5 h a _ c x v o most lit cop w r k h1 hv (by omega) (by omega) (restV x) _ rfl hlen d h2 hd (by omega) (by omega) (by omega) ho hmm (by omega))
            · have ht : tokE x o most = 0 := by unfold tokE; rw [if_neg (by simpa using h1), if_neg hk, if_pos hodd, if_neg (by simpa using h2), if_neg hdz, if_neg hm]
              refine (tok_copy h a _ c x v o most lit cop w k d r h1 hv (by omega) (restV x) _ rfl hlen h2 hd (by omega) (by omega) (by omega) hmm hc0 hc1).mono ?_
              rintro e w' ⟨rfl, ⟨a', c', v', r'⟩, hb⟩
              refine ⟨by rw [ht], hb, fun _ => ⟨a', c', v', ?_⟩⟩
              have e1 : tokX x = (restV x).drop (rvN (restV x) (restV x).length).toNat := by unfold tokX; rw [if_pos hodd]; rfl
              have e2 : tokO x o = copyN o d k := by unfold tokO; rw [if_pos hodd, hd, hkk]; rfl
              have e3 : tokL x = 0 := by unfold tokL; rw [if_pos hodd]
              have e4 : tokC x = k := by unfold tokC; rw [if_pos hodd, hkk]
              rw [e1, e2, e3, e4, List.length_drop, Int.add_zero]
              exact r'
        · exact bad _ (by unfold tokE; rw [if_neg (by simpa using h1), if_neg hk, if_pos hodd, if_pos h2]) h2 (tok_e3 h a _ c x v o most lit cop w r k h1 hv (by omega) (by omega) (restV x) _ rfl hlen _ rfl h2)
      · have hv : rvV x x.length = 2 * (k : Int) := by omega
        by_cases hm : most - (o.length : Int) < rvV x x.length / 2
        · exact bad 24 (by unfold tokE; rw [if_neg (by simpa using h1), if_neg hk, if_neg hodd, if_pos hm]) (by decide)
            (tok_e6 h a _ c x v o most lit cop w r k h1 hv (by omega) (by omega) (restV x) _ rfl hlen ho hmm (by omega))
        · by_cases hs : ((restV x).length : Int) < rvV x x.length / 2
          · exact bad 21 (by unfold tokE; rw [if_neg (by simpa using h1), if_neg hk, if_neg hodd, if_neg hm, if_pos hs]) (by decide)
              (tok_e7 h a _ c x v o most lit cop w r k h1 hv (by omega) (by omega) (restV x) _ rfl hlen ho hmm (by omega) (by omega))
          · have ht : tokE x o most = 0 := by unfold tokE; rw [if_neg (by simpa using h1), if_neg hk, if_neg hodd, if_neg hm, if_neg hs]
            refine (tok_lit h a _ c x v o most lit cop w k r h1 hv (by omega) (restV x) _ rfl hlen (by omega) (by omega) hmm hl0 hl1).mono ?_
            rintro e w' ⟨rfl, ⟨a', c', v', r'⟩, hb⟩
            refine ⟨by rw [ht], hb, fun _ => ⟨a', c', v', ?_⟩⟩
            have e1 : tokX x = (restV x).drop k := by unfold tokX; rw [if_neg hodd, hkk]; rfl
            have e2 : tokO x o = o ++ (restV x).take k := by unfold tokO; rw [if_neg hodd, hkk]; rfl
            have e3 : tokL x = k := by unfold tokL; rw [if_neg hodd, hkk]
            have e4 : tokC x = 0 := by unfold tokC; rw [if_neg hodd]
            rw [e1, e2, e3, e4, List.length_drop, Int.add_zero]
            exact r'
  · exact bad _ (by unfold tokE; rw [if_pos h1]) h1 (tok_e1 h a _ c x v o most lit cop w r _ rfl h1)
end Go.Proofs.Ytfoabnoolmeoiaa
