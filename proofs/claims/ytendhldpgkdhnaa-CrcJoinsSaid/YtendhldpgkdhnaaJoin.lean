/- The contract of crc.Join. -/
import Derived.Test.YtendhldpgkdhnaaSquare
import Derived.RegionTactic
import Derived.ChangeAlike
namespace Go.Proofs.Ytendhldpgkdhnaa
open Go.RowKit
theorem row_set {w : World} {g T : Nat} {f f' : Array Value} (h : w.heap[g]? = some (.cells f T (0, 0))) (k : Nat) (v : Value) (e : f.setIfInBounds k v = f') : (w.setCell ⟨g, k, none⟩ v).drew.heap[g]? = some (.cells f' T (0, 0)) := by
  subst e; exact heap_setCell_same _ _ _ _ _ _ h
theorem join_none (x y : BitVec 32) (n : Int) (w : World) (hn : n < 1) :
    Calls Try.prog 12 #[.int .u32 (rnum x), .int .u32 (rnum y), .int .i64 n] w fun e w' => e = .returned (.int .u32 (rnum x)) ∧ w = w' := by
  go_enter Try.func12, Try.ntmps12
  go_wp2
  go_ret
  exact ⟨rfl, rfl⟩
set_option maxRecDepth 100000 in
set_option maxHeartbeats 1000000 in
theorem join_any (x y : BitVec 32) (N : Nat) (w : World) (hn0 : 1 ≤ N) (hn : N ≤ 1000000) :
    Calls Try.prog 12 #[.int .u32 (rnum x), .int .u32 (rnum y), .int .i64 N] w fun e w' => e = .returned (.int .u32 (rnum (bsN (8 * N) x ^^^ y))) ∧ Below w.heap.size w w' := by
  have hdec : decide ((N : Int) < 1) = false := decide_eq_false (by omega)
  go_enter Try.func12, Try.ntmps12
  go_wp2
  go_loopw [8] (fun i wr => ∃ k : Nat, 1 ≤ k ∧ k ≤ 32 ∧ i = .int .i64 k ∧ wr.heap[w.heap.size]? = some (.cells (sqOne k) 47 (0, 0)) ∧ Below w.heap.size w wr) (fun i _ => 32 - (intOf i).toNat)
  case atStart => exact ⟨1, by omega, by omega, rfl, heap_alloc_new _ _, (Below.refl _ _).alloc (Nat.le_refl _) _⟩
  case round =>
    obtain ⟨k, hk1, hk, rfl, hg, hb⟩ := hrel
    have hsz := (Array.getElem?_eq_some_iff.1 hg).1
    by_cases hp : k < 32
    · have hc : wr.cell? ⟨w.heap.size, k, none⟩ = some (.int .u32 0) := by rw [cell_of_row wr _ _ _ _ _ hg]; exact (rowU_get _ _ hp).trans (by rw [if_neg (by omega), if_neg (by omega)]; rfl)
      have hf : wr.frozen? ⟨w.heap.size, k, none⟩ = false := frozen_of_row wr _ _ _ _ hg
      have HG := Lib.hid hg
      have HS := Lib.hid (shl_go (k - 1))
      have HO := Lib.hid (sqOne_step k hk1)
      clear hg
      go_wp2
      go_region
      go_wp2
      go_roundw
      case rel => exact ⟨k + 1, by omega, by omega, by go_num, by rw [HS.out]; exact row_set HG.out k _ HO.out, (hb.setCell (by simp) _).drew⟩
      case measure => simp [intOf] <;> omega
    · rw [show k = 32 by omega, sqOne_all] at hg
      have HG := Lib.hid hg
      clear hg
      go_wp2
      obtain ⟨wo, hwo⟩ : ∃ wo : World, wo = wr := ⟨_, rfl⟩
      subst hwo
      go_loopw [7, 25] (fun s i wr => ∃ q g : Nat, q ≤ 3 ∧ i = .int .i64 q ∧ s = .pointer (some ⟨g, 0, none⟩) ∧ wr.heap[g]? = some (.cells (sqA (2 ^ q)) 47 (0, 0)) ∧ Below w.heap.size w wr) (fun _ i _ => 3 - (intOf i).toNat)
      case atStart => exact ⟨0, w.heap.size, by omega, rfl, rfl, HG.out, hb⟩
      case round =>
        clear HG hb
        obtain ⟨q, g, hq, rfl, rfl, hg, hb⟩ := hrel
        have HG := Lib.hid hg
        have hsz := (Array.getElem?_eq_some_iff.1 hg).1
        clear hg
        by_cases hp : q < 3
        · go_wp2_with (go_at_call 21; refine (twice_any _ _ _ HG.out).mono ?_; rintro e w1 ⟨rfl, hg1, hb1⟩; have HG1 := Lib.hid hg1; clear hg1)
          go_roundw
          case rel => exact ⟨q + 1, _, by omega, by go_num, rfl, by rw [Nat.pow_succ, Nat.mul_two]; exact HG1.out, hb.trans (hb1.mono hb.size)⟩
          case measure => simp [intOf] <;> omega
        · have HQ : Hid (sqA (2 ^ q) = sqA (8 * 1)) := by show _ = _; rw [show q = 3 by omega]
          rw [HQ.out] at HG
          go_wp2
          obtain ⟨wo, hwo⟩ : ∃ wo : World, wo = wr := ⟨_, rfl⟩
          subst hwo
          go_loopw [0, 2, 7] (fun a n s wr => ∃ q r m g : Nat, N = m * q + r ∧ a = .int .u32 (rnum (bsN (8 * r) x)) ∧ n = .int .i64 m ∧ s = .pointer (some ⟨g, 0, none⟩) ∧ wr.heap[g]? = some (.cells (sqA (8 * q)) 47 (0, 0)) ∧ m ≤ N ∧ Below w.heap.size w wr) (fun _ n _ _ => (intOf n).toNat)
          case atStart => exact ⟨1, 0, N, g, by omega, rfl, rfl, rfl, HG.out, Nat.le_refl _, hb⟩
          case round =>
            clear HG hb hsz
            obtain ⟨q, r, m, g, hN, rfl, rfl, rfl, hg, hm, hb⟩ := hrel
            have HG := Lib.hid hg
            have HN := Lib.hid hN
            have hsz := (Array.getElem?_eq_some_iff.1 hg).1
            clear hg hN
            by_cases hp : 0 < m
            · have hand := i64_and_one m (by omega)
              have hd := shr_one m
              by_cases ho : m % 2 = 1
              · have ht : (bits .and .i64 (m : Int) 1 == 1) = true := by rw [hand, ho]; rfl
                have HX : Hid (bsN (8 * q) (bsN (8 * r) x) = bsN (8 * (r + q)) x) := by show _ = _; rw [Nat.mul_add, bsN_add]
                have HM : Hid (N = m / 2 * (q + q) + (r + q)) := by
                  show _ = _
                  have e : m = m / 2 * 2 + 1 := by omega
                  have e2 := HN.out
                  rw [e, Nat.add_mul, Nat.mul_assoc, Nat.two_mul] at e2
                  omega
                clear hand ho
                go_wp2_with (first | (go_at_call 22; refine (times_any _ _ _ _ HG.out).mono ?_; rintro e w1 ⟨rfl, rfl⟩) | (go_at_call 21; refine (twice_any _ _ _ HG.out).mono ?_; rintro e w1 ⟨rfl, hg1, hb1⟩; have HG1 := Lib.hid hg1; clear hg1))
                go_roundw
                case rel => exact ⟨q + q, r + q, m / 2, _, HM.out, by rw [HX.out], by go_num, rfl, by rw [Nat.mul_add]; exact HG1.out, by omega, hb.trans (hb1.mono hb.size)⟩
                case measure => simp [intOf] <;> omega
              · have ht : (bits .and .i64 (m : Int) 1 == 1) = false := by rw [hand, (by omega : m % 2 = 0)]; rfl
                have HM : Hid (N = m / 2 * (q + q) + r) := by
                  show _ = _
                  have e : m = m / 2 * 2 := by omega
                  have e2 := HN.out
                  rw [e, Nat.mul_assoc, Nat.two_mul] at e2
                  omega
                clear hand ho
                go_wp2_with (first | (go_at_call 22; refine (times_any _ _ _ _ HG.out).mono ?_; rintro e w1 ⟨rfl, rfl⟩) | (go_at_call 21; refine (twice_any _ _ _ HG.out).mono ?_; rintro e w1 ⟨rfl, hg1, hb1⟩; have HG1 := Lib.hid hg1; clear hg1))
                go_roundw
                case rel => exact ⟨q + q, r, m / 2, _, HM.out, rfl, by go_num, rfl, by rw [Nat.mul_add]; exact HG1.out, by omega, hb.trans (hb1.mono hb.size)⟩
                case measure => simp [intOf] <;> omega
            · obtain rfl : m = 0 := by omega
              have HX : Hid (N = r) := by show _ = _; have := HN.out; omega
              have HY := Lib.hid (xor_go (bsN (8 * r) x) y)
              go_wp2
              go_ret
              exact ⟨ret_int (by rw [HX.out]; exact HY.out), hb⟩
end Go.Proofs.Ytendhldpgkdhnaa
