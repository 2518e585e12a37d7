/- lz's all, Unpack: their contracts. -/
import Derived.Test.YtfoabnoolmeoiaaLzAllP
import Derived.Test.YtfoabnoolmeoiaaLzAllR
namespace Go.Proofs.Ytfoabnoolmeoiaa
open Go.RowKit
set_option maxRecDepth 100000 in
theorem all_any (h : Nat) (a : Option Addr) (n c : Nat) (x : List Int) (v : Value) (most : Int) (w : World) (r : RdrAt w h a n c x v [] most 0 0) (hm0 : 0 ≤ most) (hmm : most ≤ 2097152) :
    Calls Try.prog 15 #[.pointer (some ⟨h, 0, none⟩)] w fun e w' => e = .returned (.int .i64 (allT most x).e) ∧ Below h w w' ∧
      ((allT most x).e = 0 → ∃ a' n' c' x' v', RdrAt w' h a' n' c' x' v' (allT most x).o most (allT most x).lit (allT most x).cop) := by
  have hlen := r.rd.len
  have hcap := r.rd.cap
  have bad : ∀ (T : Tok), allT most x = T → T.e ≠ 0 → Calls Try.prog 15 #[.pointer (some ⟨h, 0, none⟩)] w (fun e w' => e = .returned (.int .i64 T.e) ∧ Below h w w') →
      Calls Try.prog 15 #[.pointer (some ⟨h, 0, none⟩)] w fun e w' => e = .returned (.int .i64 (allT most x).e) ∧ Below h w w' ∧
      ((allT most x).e = 0 → ∃ a' n' c' x' v', RdrAt w' h a' n' c' x' v' (allT most x).o most (allT most x).lit (allT most x).cop) := by
    intro T hT h0 hc
    refine hc.mono ?_
    rintro e w' ⟨rfl, hb⟩
    exact ⟨by rw [hT], hb, fun h1 => absurd (by rw [hT] at h1; exact h1) h0⟩
  by_cases h0 : n = 0
  · exact bad ⟨21, x, [], 0, 0⟩ (by unfold allT; rw [if_pos (by omega)]) (show (21 : Int) ≠ 0 by decide) (all_e h a n c x v most w r h0)
  · by_cases hk : nth x 0 = 0
    · by_cases hm : most < ((x.length - 1 : Nat) : Int)
      · exact bad ⟨24, x, [], 0, 0⟩ (by unfold allT; rw [if_neg (by omega), if_pos hk, if_pos hm]) (show (24 : Int) ≠ 0 by decide) (all_l2 h a n c x v most w r (by omega) hk (by omega) hm0 (by rw [← hlen]; exact hm))
      · have hT : allT most x = ⟨0, [], x.drop 1, ((x.length - 1 : Nat) : Int), 0⟩ := by unfold allT; rw [if_neg (by omega), if_pos hk, if_neg hm]
        rw [hT]
        rw [hlen] at hm ⊢
        by_cases hc : c = 1
        · refine (all_r1 h a n c x v most w r (by omega) hk hc hm0 hmm (by omega)).mono ?_
          rintro e w' ⟨rfl, hb, hr⟩
          exact ⟨rfl, hb, fun _ => hr⟩
        · refine (all_r2 h a n c x v most w r (by omega) hk (by omega) hm0 hmm (by omega)).mono ?_
          rintro e w' ⟨rfl, hb, hr⟩
          exact ⟨rfl, hb, fun _ => hr⟩
    · by_cases hk1 : nth x 0 = 1
      · have hT : allT most x = toks most (x.length - 1) (x.drop 1) [] 0 0 := by unfold allT; rw [if_neg (by omega), if_neg hk, if_pos hk1]
        by_cases hc : c = 1
        · exact all_p1 h a n c x v most w r (by omega) hk1 hc hm0 hmm _ (by rw [hT, hlen])
        · exact all_p2 h a n c x v most w r (by omega) hk1 (by omega) hm0 hmm _ (by rw [hT, hlen])
      · refine bad ⟨22, x, [], 0, 0⟩ (by unfold allT; rw [if_neg (by omega), if_neg hk, if_neg hk1]) (show (22 : Int) ≠ 0 by decide) ?_
        by_cases hc : c = 1
        · exact all_o1 h a n c x v most w r _ (by omega) rfl hk hk1 hc
        · exact all_o2 h a n c x v most w r _ (by omega) rfl hk hk1 (by omega)
/-- What is told: nothing where there is an error. -/
def outT (T : Tok) : List Int := if T.e = 0 then T.o else []
theorem RdAt.lowOf {k : IntKind} {w : World} {a : Option Addr} {n c : Nat} {l : List Int} (r : RdAt k w a n c l) : ∀ q, a = some q → 0 < n → q.block < w.heap.size := by
  rintro q rfl hn
  obtain ⟨b, o, hq, hc⟩ := r.cell 0 hn
  injection hq with hq
  subst hq
  unfold World.cell? at hc
  by_cases hb : b < w.heap.size
  · exact hb
  · simp [Array.getElem?_eq_none (Nat.le_of_not_lt hb)] at hc
set_option maxRecDepth 100000 in
set_option maxHeartbeats 1000000 in
theorem unpack_any (a : Option Addr) (n c : Nat) (x : List Int) (most M : Int) (w : World) (r : RdAt .u8 w a n c x) (hM : max most 0 = M) (hm : most ≤ 2097152) :
    Calls Try.prog 10 #[.slice a n c, .int .i64 most] w fun e w' => (∃ v, e = .returned (.tuple #[v, .int .i64 (allT M x).e]) ∧ Owns .u8 5 w' w.heap.size v (outT (allT M x))) ∧ Below w.heap.size w w' := by
  have hM0 : 0 ≤ M := by omega
  have hM1 : M ≤ 2097152 := by omega
  have R : Hid (RdrAt (w.alloc (.cells #[.slice a n c, .slice none 0 0, .int .i64 M, .int .i64 0, .int .i64 0] 43 (0, 0))) w.heap.size a n c x (.slice none 0 0) [] M 0 0) :=
    ⟨heap_alloc_new _ _, r.alloc _, r.lowOf, Owns.nil _ _ _ _⟩
  clear r
  by_cases h0 : 0 ≤ most
  · obtain rfl : most = M := by omega
    clear hM
    go_enter Try.func10, Try.ntmps10
    go_wp2_with fail
    refine (all_any _ _ _ _ _ _ _ _ R.out hM0 hM1).mono ?_
    rintro e w1 ⟨rfl, hb, hgood⟩
    have hb2 : Below w.heap.size w w1 := ((Below.refl _ _).alloc (Nat.le_refl _) _).trans hb
    clear hb
    by_cases hE : (allT most x).e = 0
    · obtain ⟨a1, n1, c1, x1, v1, r1⟩ := hgood hE
      obtain ⟨q, hq⟩ : ∃ q, (allT most x).o.length = q := ⟨_, rfl⟩
      obtain ⟨av, cv, rfl⟩ := r1.own.shapeN q hq
      obtain ⟨c0, d1, d2, d3, d4, cf⟩ := cells5 r1.row
      have hown := Lib.hid (r1.own.mono (Nat.le_succ w.heap.size))
      clear r1 hgood c0 d2 d3 d4 cf hq
      have HE := Lib.hid hE
      rw [hE]
      clear hE
      go_wp2_with fail
      go_ret2
      refine ⟨⟨_, by first | rfl | (rw [HE.out]; rfl), ?_⟩, hb2⟩
      unfold outT
      rw [if_pos HE.out]
      exact hown.out
    · obtain ⟨q, hq⟩ : ∃ q, (allT most x).e = q := ⟨_, rfl⟩
      rw [hq] at hE
      have hE2 : (q == 0) = false := beq_eq_false_iff_ne.2 hE
      rw [hq]
      clear hgood
      have HQ := Lib.hid hq
      clear hq
      go_wp2_with fail
      go_ret2
      refine ⟨⟨_, by first | rfl | (rw [HQ.out]; rfl), ?_⟩, hb2⟩
      unfold outT
      rw [if_neg (by rw [HQ.out]; exact hE)]
      exact Owns.nil _ _ _ _
  · obtain rfl : M = 0 := by omega
    clear hM
    have h1 : most < 0 := by omega
    go_enter Try.func10, Try.ntmps10
    go_wp2_with fail
    refine (all_any _ _ _ _ _ _ _ _ R.out hM0 hM1).mono ?_
    rintro e w1 ⟨rfl, hb, hgood⟩
    have hb2 : Below w.heap.size w w1 := ((Below.refl _ _).alloc (Nat.le_refl _) _).trans hb
    clear hb
    by_cases hE : (allT 0 x).e = 0
    · obtain ⟨a1, n1, c1, x1, v1, r1⟩ := hgood hE
      obtain ⟨q, hq⟩ : ∃ q, (allT 0 x).o.length = q := ⟨_, rfl⟩
      obtain ⟨av, cv, rfl⟩ := r1.own.shapeN q hq
      obtain ⟨c0, d1, d2, d3, d4, cf⟩ := cells5 r1.row
      have hown := Lib.hid (r1.own.mono (Nat.le_succ w.heap.size))
      clear r1 hgood c0 d2 d3 d4 cf hq
      have HE := Lib.hid hE
      rw [hE]
      clear hE
      go_wp2_with fail
      go_ret2
      refine ⟨⟨_, by first | rfl | (rw [HE.out]; rfl), ?_⟩, hb2⟩
      unfold outT
      rw [if_pos HE.out]
      exact hown.out
    · obtain ⟨q, hq⟩ : ∃ q, (allT 0 x).e = q := ⟨_, rfl⟩
      rw [hq] at hE
      have hE2 : (q == 0) = false := beq_eq_false_iff_ne.2 hE
      rw [hq]
      clear hgood
      have HQ := Lib.hid hq
      clear hq
      go_wp2_with fail
      go_ret2
      refine ⟨⟨_, by first | rfl | (rw [HQ.out]; rfl), ?_⟩, hb2⟩
      unfold outT
      rw [if_neg (by rw [HQ.out]; exact hE)]
      exact Owns.nil _ _ _ _
end Go.Proofs.Ytfoabnoolmeoiaa
