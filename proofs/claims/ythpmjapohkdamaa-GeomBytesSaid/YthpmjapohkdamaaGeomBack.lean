/- What was laid by Encode is read so. No program in sight. -/
import Derived.Test.YthpmjapohkdamaaGeomDec
namespace Go.Proofs.Ythpmjapohkdamaa
open Go.RowKit
theorem rdInt_var {x : Int} (h1 : -9223372036854775808 ≤ x) (h2 : x ≤ 9223372036854775807) (more : List Int) : rdInt (varF 9 (zigI x) ++ more) = ⟨0, x, more⟩ := by
  have hz := zigI_bd x h1 h2
  obtain ⟨r1, r2, r3⟩ := readvar_var (zigI x) hz.1 hz.2 more _ rfl
  rw [rdInt_ok r3, r1, r2, zag_zig, Int.toNat_natCast, List.drop_left]
theorem rSt_enc (xs : List Int) (hw : ∀ y ∈ xs, (Lit.int .i64 y).wf = true) : ∀ k, k ≤ xs.length → (rSt (encL xs) k).e = 0 ∧ (rSt (encL xs) k).l = encL (xs.drop k) ∧ (∀ j, j < k → decV (encL xs) j = nth xs j)
  | 0, _ => ⟨rfl, rfl, fun j hj => by omega⟩
  | k + 1, hk => by
    obtain ⟨h1, h2, h3⟩ := rSt_enc xs hw k (by omega)
    have hlt : k < xs.length := by omega
    have hd : xs.drop k = xs[k] :: xs.drop (k + 1) := List.drop_eq_getElem_cons hlt
    have hb := wf_i64_bd (hw _ (List.getElem_mem hlt))
    have hst : rSt (encL xs) (k + 1) = ⟨0, xs[k], encL (xs.drop (k + 1))⟩ := by
      rw [rSt, h1, rdFrom_ok, h2, hd, encL, rdInt_var hb.1 hb.2]
    refine ⟨by rw [hst], by rw [hst], fun j hj => ?_⟩
    by_cases e : j = k
    · subst e
      unfold decV
      rw [hst, nth_eq hlt]
    · exact h3 j (by omega)
theorem dec_enc {a0 a1 a2 a3 a4 a5 a6 a7 a8 : Int} (h0 : (Lit.int .i64 a0).wf = true) (h1 : (Lit.int .i64 a1).wf = true) (h2 : (Lit.int .i64 a2).wf = true) (h3 : (Lit.int .i64 a3).wf = true) (h4 : (Lit.int .i64 a4).wf = true) (h5 : (Lit.int .i64 a5).wf = true) (h6 : (Lit.int .i64 a6).wf = true) (h7 : (Lit.int .i64 a7).wf = true) (h8 : (Lit.int .i64 a8).wf = true) : decB (encL [a0, a1, a2, a3, a4, a5, a6, a7, a8]) = chkB a0 a1 a2 a3 a4 a5 a6 a7 a8 ∧ decV (encL [a0, a1, a2, a3, a4, a5, a6, a7, a8]) 0 = a0 ∧ decV (encL [a0, a1, a2, a3, a4, a5, a6, a7, a8]) 1 = a1 ∧ decV (encL [a0, a1, a2, a3, a4, a5, a6, a7, a8]) 2 = a2 ∧ decV (encL [a0, a1, a2, a3, a4, a5, a6, a7, a8]) 3 = a3 ∧ decV (encL [a0, a1, a2, a3, a4, a5, a6, a7, a8]) 4 = a4 ∧ decV (encL [a0, a1, a2, a3, a4, a5, a6, a7, a8]) 5 = a5 ∧ decV (encL [a0, a1, a2, a3, a4, a5, a6, a7, a8]) 6 = a6 ∧ decV (encL [a0, a1, a2, a3, a4, a5, a6, a7, a8]) 7 = a7 ∧ decV (encL [a0, a1, a2, a3, a4, a5, a6, a7, a8]) 8 = a8 := by
  have hw : ∀ y ∈ [a0, a1, a2, a3, a4, a5, a6, a7, a8], (Lit.int .i64 y).wf = true := by
    intro y hy
    simp only [List.mem_cons, List.not_mem_nil, or_false] at hy
    rcases hy with rfl | rfl | rfl | rfl | rfl | rfl | rfl | rfl | rfl <;> assumption
  obtain ⟨g1, g2, g3⟩ := rSt_enc [a0, a1, a2, a3, a4, a5, a6, a7, a8] hw 9 (by simp)
  have e0 : decV (encL [a0, a1, a2, a3, a4, a5, a6, a7, a8]) 0 = a0 := g3 0 (by omega)
  have e1 : decV (encL [a0, a1, a2, a3, a4, a5, a6, a7, a8]) 1 = a1 := g3 1 (by omega)
  have e2 : decV (encL [a0, a1, a2, a3, a4, a5, a6, a7, a8]) 2 = a2 := g3 2 (by omega)
  have e3 : decV (encL [a0, a1, a2, a3, a4, a5, a6, a7, a8]) 3 = a3 := g3 3 (by omega)
  have e4 : decV (encL [a0, a1, a2, a3, a4, a5, a6, a7, a8]) 4 = a4 := g3 4 (by omega)
  have e5 : decV (encL [a0, a1, a2, a3, a4, a5, a6, a7, a8]) 5 = a5 := g3 5 (by omega)
  have e6 : decV (encL [a0, a1, a2, a3, a4, a5, a6, a7, a8]) 6 = a6 := g3 6 (by omega)
  have e7 : decV (encL [a0, a1, a2, a3, a4, a5, a6, a7, a8]) 7 = a7 := g3 7 (by omega)
  have e8 : decV (encL [a0, a1, a2, a3, a4, a5, a6, a7, a8]) 8 = a8 := g3 8 (by omega)
  refine ⟨?_, e0, e1, e2, e3, e4, e5, e6, e7, e8⟩
  have hE : decE (encL [a0, a1, a2, a3, a4, a5, a6, a7, a8]) = 0 := by
    unfold decE
    rw [g1, g2]
    rfl
  unfold decB
  rw [hE, e0, e1, e2, e3, e4, e5, e6, e7, e8]
  rfl
theorem dec_yes {a0 a1 a2 a3 a4 a5 a6 a7 a8 : Int} (h0 : (Lit.int .i64 a0).wf = true) (h1 : (Lit.int .i64 a1).wf = true) (h2 : (Lit.int .i64 a2).wf = true) (h3 : (Lit.int .i64 a3).wf = true) (h4 : (Lit.int .i64 a4).wf = true) (h5 : (Lit.int .i64 a5).wf = true) (h6 : (Lit.int .i64 a6).wf = true) (h7 : (Lit.int .i64 a7).wf = true) (h8 : (Lit.int .i64 a8).wf = true) (hk : chkB a0 a1 a2 a3 a4 a5 a6 a7 a8 = true) : decC (encL [a0, a1, a2, a3, a4, a5, a6, a7, a8]) = .agg #[.int .i64 a0, .int .i64 a1, .int .i64 a2, .int .i64 a3, .int .i64 a4, .int .i64 a5, .int .i64 a6, .int .i64 a7, .int .i64 a8] ∧ decN (encL [a0, a1, a2, a3, a4, a5, a6, a7, a8]) = 0 := by
  obtain ⟨hb, e0, e1, e2, e3, e4, e5, e6, e7, e8⟩ := dec_enc h0 h1 h2 h3 h4 h5 h6 h7 h8
  unfold decC decN
  rw [if_pos (by rw [hb]; exact hk), if_pos (by rw [hb]; exact hk), e0, e1, e2, e3, e4, e5, e6, e7, e8]
  exact ⟨rfl, rfl⟩
theorem dec_no {a0 a1 a2 a3 a4 a5 a6 a7 a8 : Int} (h0 : (Lit.int .i64 a0).wf = true) (h1 : (Lit.int .i64 a1).wf = true) (h2 : (Lit.int .i64 a2).wf = true) (h3 : (Lit.int .i64 a3).wf = true) (h4 : (Lit.int .i64 a4).wf = true) (h5 : (Lit.int .i64 a5).wf = true) (h6 : (Lit.int .i64 a6).wf = true) (h7 : (Lit.int .i64 a7).wf = true) (h8 : (Lit.int .i64 a8).wf = true) (hk : chkB a0 a1 a2 a3 a4 a5 a6 a7 a8 = false) : decC (encL [a0, a1, a2, a3, a4, a5, a6, a7, a8]) = .agg #[.int .i64 0, .int .i64 0, .int .i64 0, .int .i64 0, .int .i64 0, .int .i64 0, .int .i64 0, .int .i64 0, .int .i64 0] ∧ decN (encL [a0, a1, a2, a3, a4, a5, a6, a7, a8]) = 22 := by
  obtain ⟨hb, _⟩ := dec_enc h0 h1 h2 h3 h4 h5 h6 h7 h8
  unfold decC decN
  rw [if_neg (by rw [hb, hk]; decide), if_neg (by rw [hb, hk]; decide)]
  exact ⟨rfl, rfl⟩
theorem decC_agg (l : List Int) : ∃ d0 d1 d2 d3 d4 d5 d6 d7 d8 : Int, decC l = .agg #[.int .i64 d0, .int .i64 d1, .int .i64 d2, .int .i64 d3, .int .i64 d4, .int .i64 d5, .int .i64 d6, .int .i64 d7, .int .i64 d8] := by
  unfold decC
  split
  · exact ⟨_, _, _, _, _, _, _, _, _, rfl⟩
  · exact ⟨_, _, _, _, _, _, _, _, _, rfl⟩
end Go.Proofs.Ythpmjapohkdamaa
