/- The walk of almanaclaw2.CrcMixes: it answers true at every three rows of bytes. -/
import Derived.Test.YtendhldpgkdhnaaKnown2
import Derived.Test.YtendhldpgkdhnaaMixLaw
import Derived.Test.YtendhldpgkdhnaaU8
import Derived.Test.YtendhldpgkdhnaaRegion
import Derived.Deep.DeepCutAuto
namespace Go.Proofs.Ytendhldpgkdhnaa
open Go.RowKit
set_option linter.unusedSimpArgs false
theorem wf_u8b {x : Int} (h1 : 0 ≤ x) (h2 : x ≤ 255) : (Lit.int .u8 x).wf = true := WalkArith.wf_u8 ⟨h1, h2⟩
/-- Nothing that was there at w has turned (a name of its own, which the walk does not look into). -/
structure Kept0 (w W : World) : Prop where
  b : Below w.heap.size w W
theorem Kept0.more {w W : World} (h : Kept0 w W) (o : Obj) : Kept0 w (W.alloc o) := ⟨Below.more h.b o⟩
theorem Kept0.thenB {w W W' : World} (h : Kept0 w W) (k : Below W.heap.size W W') : Kept0 w W' := ⟨Below.call h.b k⟩
theorem RdAt.kept {k : IntKind} {w W : World} {a : Option Addr} {n c : Nat} {l : List Int} (h : RdAt k w a n c l) (hk : Kept0 w W) : RdAt k W a n c l := RdAt.below h hk.b
set_option maxHeartbeats 4000000 in
theorem crcMixes_walk (aa : Option Addr) (na ca : Nat) (la : List Int) (ab : Option Addr) (nb cb : Nat) (lb : List Int) (ac : Option Addr) (nc cc : Nat) (lc : List Int) (w : World) (ha : RdAt .u8 w aa na ca la) (hbb : RdAt .u8 w ab nb cb lb) (hcc : RdAt .u8 w ac nc cc lc) :
    Calls Try.prog 3 #[.slice aa na ca, .slice ab nb cb, .slice ac nc cc] w fun e w' => e = .returned (.bool true) ∧ Below w.heap.size w w' := by
  have ca1 := ha.cap
  have cb1 := hbb.cap
  have cc1 := hcc.cap
  have ma := ha.max
  have mb := hbb.max
  have mc := hcc.max
  unfold maxLen at ma mb mc
  go_enter Try.func3, Try.ntmps3
  go_upto_if 17 with (go_at_call 9; refine (known2 _).mono ?_; rintro e w1 ⟨rfl, hb⟩)
  go_cut [7] (fun x wc => x = .int .i64 (min na nb : Nat) ∧ w1 = wc)
  case first =>
    by_cases h1 : nb < na
    · have e := Lib.hid (show min na nb = nb by omega)
      go_wp2
      go_meet
      case rel => exact ⟨by rw [e.out], rfl⟩
    · have e := Lib.hid (show min na nb = na by omega)
      go_wp2
      go_meet
      case rel => exact ⟨by rw [e.out], rfl⟩
  case rest =>
    obtain ⟨rfl, rfl⟩ := hcut
    obtain ⟨n1, hn1⟩ : ∃ n1, n1 = min na nb := ⟨_, rfl⟩
    have hna1 : n1 ≤ na := by omega
    have hnb1 : n1 ≤ nb := by omega
    rw [← hn1]
    clear hn1
    go_upto_if 23 with fail
    go_cut [7] (fun x wc => x = .int .i64 (min n1 nc : Nat) ∧ w1 = wc)
    case first =>
      by_cases h1 : nc < n1
      · have e := Lib.hid (show min n1 nc = nc by omega)
        go_wp2
        go_meet
        case rel => exact ⟨by rw [e.out], rfl⟩
      · have e := Lib.hid (show min n1 nc = n1 by omega)
        go_wp2
        go_meet
        case rel => exact ⟨by rw [e.out], rfl⟩
    case rest =>
    obtain ⟨rfl, rfl⟩ := hcut
    obtain ⟨n, hn⟩ : ∃ n, n = min n1 nc := ⟨_, rfl⟩
    have hna : n ≤ na := by omega
    have hnb : n ≤ nb := by omega
    have hnc : n ≤ nc := by omega
    rw [← hn]
    clear hn hna1 hnb1
    replace ha := ha.below hb
    replace hbb := hbb.below hb
    replace hcc := hcc.below hb
    by_cases hbig : 8192 < n
    · go_wp2
      go_ret
      exact ⟨rfl, hb⟩
    go_wp2
    go_loopw [8, 9] (fun v i wr => ∃ k : Nat, k ≤ n ∧ i = .int .i64 k ∧ Owns .u8 5 wr w1.heap.size v (mixL la lb lc k) ∧ Below w1.heap.size w1 wr) (fun _ i _ => n - (intOf i).toNat)
    case atStart => exact ⟨0, by omega, rfl, Owns.nil _ _ _ _, Below.refl _ _⟩
    case round =>
      obtain ⟨k, hk, rfl, ho, hbw⟩ := hrel
      by_cases hp : k < n
      · obtain ⟨b1, o1, rfl, c1⟩ := (ha.below hbw).cell k (by omega)
        obtain ⟨b2, o2, rfl, c2⟩ := (hbb.below hbw).cell k (by omega)
        obtain ⟨b3, o3, rfl, c3⟩ := (hcc.below hbw).cell k (by omega)
        obtain ⟨p1, p2⟩ := ha.byte k (by omega)
        obtain ⟨q1, q2⟩ := hbb.byte k (by omega)
        obtain ⟨r1, r2⟩ := hcc.byte k (by omega)
        have e1 := (byte_xor _ _ p1 p2 q1 q2).2
        have e2 := (byte_xor _ _ e1.1 e1.2 r1 r2).2
        have k0 : (0 : Int) ≤ (k : Int) := by omega
        have ka : (k : Int) < (na : Int) := by omega
        have kb : (k : Int) < (nb : Int) := by omega
        have kc : (k : Int) < (nc : Int) := by omega
        go_wp2
        replace ho := ho.drew
        replace hbw := hbw.drew
        refine reg_start (by kernel_rfl) 18 rfl (by kernel_rfl) ?_
        refine reg_take 0 (d := 33) (v := ?_) (listed' := (bitsA 18 1)) rfl rfl (by kernel_rfl) (by kernel_rfl) (by kernel_rfl) (by kernel_rfl) (fun _ _ _ h => h) (by rfl) ?_ ?_
        rotate_left
        · (intro w; go_simp; try with_reducible rfl)
        simp only [List.setIfInBounds_toArray, List.set_cons_zero, List.set_cons_succ]
        refine reg_take 1 (d := 34) (v := ?_) (listed' := (bitsA 18 3)) rfl rfl (by kernel_rfl) (by kernel_rfl) (by kernel_rfl) (by kernel_rfl) (fun _ _ _ h => h) (by rfl) ?_ ?_
        rotate_left
        · (intro w; go_simp; try with_reducible rfl)
        simp only [List.setIfInBounds_toArray, List.set_cons_zero, List.set_cons_succ]
        refine reg_take 2 (d := 35) (v := ?_) (listed' := (bitsA 18 7)) rfl rfl (by kernel_rfl) (by kernel_rfl) (by kernel_rfl) (by kernel_rfl) (fun _ _ _ h => h) (by rfl) ?_ ?_
        rotate_left
        · (intro w; go_simp; try with_reducible rfl)
        simp only [List.setIfInBounds_toArray, List.set_cons_zero, List.set_cons_succ]
        refine reg_take 3 (d := 36) (v := ?_) (listed' := (bitsA 18 15)) rfl rfl (by kernel_rfl) (by kernel_rfl) (by kernel_rfl) (by kernel_rfl) (fun _ _ _ h => h) (by rfl) ?_ ?_
        rotate_left
        · (intro w; go_simp; try with_reducible rfl)
        simp only [List.setIfInBounds_toArray, List.set_cons_zero, List.set_cons_succ]
        refine reg_take 5 (d := 38) (v := ?_) (listed' := (bitsA 18 47)) rfl rfl (by kernel_rfl) (by kernel_rfl) (by kernel_rfl) (by kernel_rfl) (fun _ _ _ h => h) (by rfl) ?_ ?_
        rotate_left
        · (intro w; go_simp; try with_reducible rfl)
        simp only [List.setIfInBounds_toArray, List.set_cons_zero, List.set_cons_succ]
        refine reg_take 6 (d := 39) (v := ?_) (listed' := (bitsA 18 111)) rfl rfl (by kernel_rfl) (by kernel_rfl) (by kernel_rfl) (by kernel_rfl) (fun _ _ _ h => h) (by rfl) ?_ ?_
        rotate_left
        · (intro w; go_simp; try with_reducible rfl)
        simp only [List.setIfInBounds_toArray, List.set_cons_zero, List.set_cons_succ]
        refine reg_take 7 (d := 40) (v := ?_) (listed' := (bitsA 18 239)) rfl rfl (by kernel_rfl) (by kernel_rfl) (by kernel_rfl) (by kernel_rfl) (fun _ _ _ h => h) (by rfl) ?_ ?_
        rotate_left
        · (intro w; go_simp; try with_reducible rfl)
        simp only [List.setIfInBounds_toArray, List.set_cons_zero, List.set_cons_succ]
        refine reg_take 10 (d := 43) (v := ?_) (listed' := (bitsA 18 1263)) rfl rfl (by kernel_rfl) (by kernel_rfl) (by kernel_rfl) (by kernel_rfl) (fun _ _ _ h => h) (by rfl) ?_ ?_
        rotate_left
        · (intro w; go_simp; try with_reducible rfl)
        simp only [List.setIfInBounds_toArray, List.set_cons_zero, List.set_cons_succ]
        refine reg_take 11 (d := 44) (v := ?_) (listed' := (bitsA 18 3311)) rfl rfl (by kernel_rfl) (by kernel_rfl) (by kernel_rfl) (by kernel_rfl) (fun _ _ _ h => h) (by rfl) ?_ ?_
        rotate_left
        · (intro w; go_simp; try with_reducible rfl)
        simp only [List.setIfInBounds_toArray, List.set_cons_zero, List.set_cons_succ]
        refine reg_take 12 (d := 45) (v := ?_) (listed' := (bitsA 18 7407)) rfl rfl (by kernel_rfl) (by kernel_rfl) (by kernel_rfl) (by kernel_rfl) (fun _ _ _ h => h) (by rfl) ?_ ?_
        rotate_left
        · (intro w; go_simp; try with_reducible rfl)
        simp only [List.setIfInBounds_toArray, List.set_cons_zero, List.set_cons_succ]
        refine reg_three 4 8 13 (m1 := (bitsA 18 7423)) (m2 := (bitsA 18 7663)) (m3 := (bitsA 18 15599)) rfl (by kernel_rfl) rfl rfl (by kernel_rfl) rfl rfl (by kernel_rfl) rfl (by kernel_rfl) ?_ ?_ ?_
        intro K hK
        go_simp
        refine hK _ _ ?_
        clear hK K
        refine reg_two 8 13 (m1 := (bitsA 18 7679)) (m2 := (bitsA 18 15615)) rfl (by kernel_rfl) rfl rfl (by kernel_rfl) rfl (by kernel_rfl) ?_ ?_
        intro K hK
        go_simp
        refine hK _ _ ?_
        clear hK K
        refine reg_take 9 (d := 42) (v := ?_) (listed' := (bitsA 18 8191)) rfl rfl (by kernel_rfl) (by kernel_rfl) (by kernel_rfl) (by kernel_rfl) (fun _ _ _ h => h) (by rfl) ?_ ?_
        rotate_left
        · (intro w; go_simp; try with_reducible rfl)
        simp only [List.setIfInBounds_toArray, List.set_cons_zero, List.set_cons_succ]
        refine reg_one 13 (m1 := (bitsA 18 16383)) rfl (by kernel_rfl) rfl (by kernel_rfl) ?_
        intro K hK
        go_simp
        refine hK _ _ ?_
        clear hK K
        refine reg_take 14 (d := 47) (v := ?_) (listed' := (bitsA 18 32767)) rfl rfl (by kernel_rfl) (by kernel_rfl) (by kernel_rfl) (by kernel_rfl) (fun _ _ _ h => h) (by rfl) ?_ ?_
        rotate_left
        · (intro w; go_simp; try with_reducible rfl)
        simp only [List.setIfInBounds_toArray, List.set_cons_zero, List.set_cons_succ]
        refine reg_one 15 (m1 := (bitsA 18 65535)) rfl (by kernel_rfl) rfl (by kernel_rfl) ?_
        intro K hK
        go_simp
        refine hK _ _ ?_
        clear hK K
        refine reg_one 16 (m1 := (bitsA 18 131071)) rfl (by kernel_rfl) rfl (by kernel_rfl) ?_
        intro K hK
        refine wp_app_one 49 rfl u8T u8I (by decide) _ _ (by rfl) _ w1.heap.size _ (mixL la lb lc k) (by rfl) ho _ (by rfl) (wf_u8b e2.1 e2.2) (by rw [mixL_len]; omega) (by have := hbw.size; simpa using this) ?_
        intro v8 w8 ho8 hg8
        replace hbw := hbw.trans ((hg8.below (by have := hbw.size; simpa using this) (fun g hg => (ho.at_base g hg).1)))
        refine hK _ _ ?_
        clear hK K
        simp only [List.setIfInBounds_toArray, List.set_cons_zero, List.set_cons_succ]
        rotate_left
        intro K hK
        go_simp
        refine hK _ _ ?_
        clear hK K
        refine reg_one 8 (m1 := (bitsA 18 15871)) rfl (by kernel_rfl) rfl (by kernel_rfl) ?_
        intro K hK
        go_simp
        refine hK _ _ ?_
        clear hK K
        refine reg_take 9 (d := 42) (v := ?_) (listed' := (bitsA 18 16383)) rfl rfl (by kernel_rfl) (by kernel_rfl) (by kernel_rfl) (by kernel_rfl) (fun _ _ _ h => h) (by rfl) ?_ ?_
        rotate_left
        · (intro w; go_simp; try with_reducible rfl)
        simp only [List.setIfInBounds_toArray, List.set_cons_zero, List.set_cons_succ]
        refine reg_take 14 (d := 47) (v := ?_) (listed' := (bitsA 18 32767)) rfl rfl (by kernel_rfl) (by kernel_rfl) (by kernel_rfl) (by kernel_rfl) (fun _ _ _ h => h) (by rfl) ?_ ?_
        rotate_left
        · (intro w; go_simp; try with_reducible rfl)
        simp only [List.setIfInBounds_toArray, List.set_cons_zero, List.set_cons_succ]
        refine reg_one 15 (m1 := (bitsA 18 65535)) rfl (by kernel_rfl) rfl (by kernel_rfl) ?_
        intro K hK
        go_simp
        refine hK _ _ ?_
        clear hK K
        refine reg_one 16 (m1 := (bitsA 18 131071)) rfl (by kernel_rfl) rfl (by kernel_rfl) ?_
        intro K hK
        refine wp_app_one 49 rfl u8T u8I (by decide) _ _ (by rfl) _ w1.heap.size _ (mixL la lb lc k) (by rfl) ho _ (by rfl) (wf_u8b e2.1 e2.2) (by rw [mixL_len]; omega) (by have := hbw.size; simpa using this) ?_
        intro v8 w8 ho8 hg8
        replace hbw := hbw.trans ((hg8.below (by have := hbw.size; simpa using this) (fun g hg => (ho.at_base g hg).1)))
        refine hK _ _ ?_
        clear hK K
        simp only [List.setIfInBounds_toArray, List.set_cons_zero, List.set_cons_succ]
        rotate_left
        intro K hK
        go_simp
        refine hK _ _ ?_
        clear hK K
        refine reg_two 4 13 (m1 := (bitsA 18 7679)) (m2 := (bitsA 18 15855)) rfl (by kernel_rfl) rfl rfl (by kernel_rfl) rfl (by kernel_rfl) ?_ ?_
        intro K hK
        go_simp
        refine hK _ _ ?_
        clear hK K
        refine reg_take 9 (d := 42) (v := ?_) (listed' := (bitsA 18 8191)) rfl rfl (by kernel_rfl) (by kernel_rfl) (by kernel_rfl) (by kernel_rfl) (fun _ _ _ h => h) (by rfl) ?_ ?_
        rotate_left
        · (intro w; go_simp; try with_reducible rfl)
        simp only [List.setIfInBounds_toArray, List.set_cons_zero, List.set_cons_succ]
        refine reg_one 13 (m1 := (bitsA 18 16383)) rfl (by kernel_rfl) rfl (by kernel_rfl) ?_
        intro K hK
        go_simp
        refine hK _ _ ?_
        clear hK K
        refine reg_take 14 (d := 47) (v := ?_) (listed' := (bitsA 18 32767)) rfl rfl (by kernel_rfl) (by kernel_rfl) (by kernel_rfl) (by kernel_rfl) (fun _ _ _ h => h) (by rfl) ?_ ?_
        rotate_left
        · (intro w; go_simp; try with_reducible rfl)
        simp only [List.setIfInBounds_toArray, List.set_cons_zero, List.set_cons_succ]
        refine reg_one 15 (m1 := (bitsA 18 65535)) rfl (by kernel_rfl) rfl (by kernel_rfl) ?_
        intro K hK
        go_simp
        refine hK _ _ ?_
        clear hK K
        refine reg_one 16 (m1 := (bitsA 18 131071)) rfl (by kernel_rfl) rfl (by kernel_rfl) ?_
        intro K hK
        refine wp_app_one 49 rfl u8T u8I (by decide) _ _ (by rfl) _ w1.heap.size _ (mixL la lb lc k) (by rfl) ho _ (by rfl) (wf_u8b e2.1 e2.2) (by rw [mixL_len]; omega) (by have := hbw.size; simpa using this) ?_
        intro v8 w8 ho8 hg8
        replace hbw := hbw.trans ((hg8.below (by have := hbw.size; simpa using this) (fun g hg => (ho.at_base g hg).1)))
        refine hK _ _ ?_
        clear hK K
        simp only [List.setIfInBounds_toArray, List.set_cons_zero, List.set_cons_succ]
        rotate_left
        intro K hK
        go_simp
        refine hK _ _ ?_
        clear hK K
        refine reg_one 4 (m1 := (bitsA 18 15871)) rfl (by kernel_rfl) rfl (by kernel_rfl) ?_
        intro K hK
        go_simp
        refine hK _ _ ?_
        clear hK K
        refine reg_take 9 (d := 42) (v := ?_) (listed' := (bitsA 18 16383)) rfl rfl (by kernel_rfl) (by kernel_rfl) (by kernel_rfl) (by kernel_rfl) (fun _ _ _ h => h) (by rfl) ?_ ?_
        rotate_left
        · (intro w; go_simp; try with_reducible rfl)
        simp only [List.setIfInBounds_toArray, List.set_cons_zero, List.set_cons_succ]
        refine reg_take 14 (d := 47) (v := ?_) (listed' := (bitsA 18 32767)) rfl rfl (by kernel_rfl) (by kernel_rfl) (by kernel_rfl) (by kernel_rfl) (fun _ _ _ h => h) (by rfl) ?_ ?_
        rotate_left
        · (intro w; go_simp; try with_reducible rfl)
        simp only [List.setIfInBounds_toArray, List.set_cons_zero, List.set_cons_succ]
        refine reg_one 15 (m1 := (bitsA 18 65535)) rfl (by kernel_rfl) rfl (by kernel_rfl) ?_
        intro K hK
        go_simp
        refine hK _ _ ?_
        clear hK K
        refine reg_one 16 (m1 := (bitsA 18 131071)) rfl (by kernel_rfl) rfl (by kernel_rfl) ?_
        intro K hK
        refine wp_app_one 49 rfl u8T u8I (by decide) _ _ (by rfl) _ w1.heap.size _ (mixL la lb lc k) (by rfl) ho _ (by rfl) (wf_u8b e2.1 e2.2) (by rw [mixL_len]; omega) (by have := hbw.size; simpa using this) ?_
        intro v8 w8 ho8 hg8
        replace hbw := hbw.trans ((hg8.below (by have := hbw.size; simpa using this) (fun g hg => (ho.at_base g hg).1)))
        refine hK _ _ ?_
        clear hK K
        simp only [List.setIfInBounds_toArray, List.set_cons_zero, List.set_cons_succ]
        rotate_left
        intro K hK
        go_simp
        refine hK _ _ ?_
        clear hK K
        refine reg_two 4 8 (m1 := (bitsA 18 15615)) (m2 := (bitsA 18 15855)) rfl (by kernel_rfl) rfl rfl (by kernel_rfl) rfl (by kernel_rfl) ?_ ?_
        intro K hK
        go_simp
        refine hK _ _ ?_
        clear hK K
        refine reg_one 8 (m1 := (bitsA 18 15871)) rfl (by kernel_rfl) rfl (by kernel_rfl) ?_
        intro K hK
        go_simp
        refine hK _ _ ?_
        clear hK K
        refine reg_take 9 (d := 42) (v := ?_) (listed' := (bitsA 18 16383)) rfl rfl (by kernel_rfl) (by kernel_rfl) (by kernel_rfl) (by kernel_rfl) (fun _ _ _ h => h) (by rfl) ?_ ?_
        rotate_left
        · (intro w; go_simp; try with_reducible rfl)
        simp only [List.setIfInBounds_toArray, List.set_cons_zero, List.set_cons_succ]
        refine reg_take 14 (d := 47) (v := ?_) (listed' := (bitsA 18 32767)) rfl rfl (by kernel_rfl) (by kernel_rfl) (by kernel_rfl) (by kernel_rfl) (fun _ _ _ h => h) (by rfl) ?_ ?_
        rotate_left
        · (intro w; go_simp; try with_reducible rfl)
        simp only [List.setIfInBounds_toArray, List.set_cons_zero, List.set_cons_succ]
        refine reg_one 15 (m1 := (bitsA 18 65535)) rfl (by kernel_rfl) rfl (by kernel_rfl) ?_
        intro K hK
        go_simp
        refine hK _ _ ?_
        clear hK K
        refine reg_one 16 (m1 := (bitsA 18 131071)) rfl (by kernel_rfl) rfl (by kernel_rfl) ?_
        intro K hK
        refine wp_app_one 49 rfl u8T u8I (by decide) _ _ (by rfl) _ w1.heap.size _ (mixL la lb lc k) (by rfl) ho _ (by rfl) (wf_u8b e2.1 e2.2) (by rw [mixL_len]; omega) (by have := hbw.size; simpa using this) ?_
        intro v8 w8 ho8 hg8
        replace hbw := hbw.trans ((hg8.below (by have := hbw.size; simpa using this) (fun g hg => (ho.at_base g hg).1)))
        refine hK _ _ ?_
        clear hK K
        simp only [List.setIfInBounds_toArray, List.set_cons_zero, List.set_cons_succ]
        rotate_left
        intro K hK
        go_simp
        refine hK _ _ ?_
        clear hK K
        refine reg_one 4 (m1 := (bitsA 18 15871)) rfl (by kernel_rfl) rfl (by kernel_rfl) ?_
        intro K hK
        go_simp
        refine hK _ _ ?_
        clear hK K
        refine reg_take 9 (d := 42) (v := ?_) (listed' := (bitsA 18 16383)) rfl rfl (by kernel_rfl) (by kernel_rfl) (by kernel_rfl) (by kernel_rfl) (fun _ _ _ h => h) (by rfl) ?_ ?_
        rotate_left
        · (intro w; go_simp; try with_reducible rfl)
        simp only [List.setIfInBounds_toArray, List.set_cons_zero, List.set_cons_succ]
        refine reg_take 14 (d := 47) (v := ?_) (listed' := (bitsA 18 32767)) rfl rfl (by kernel_rfl) (by kernel_rfl) (by kernel_rfl) (by kernel_rfl) (fun _ _ _ h => h) (by rfl) ?_ ?_
        rotate_left
        · (intro w; go_simp; try with_reducible rfl)
        simp only [List.setIfInBounds_toArray, List.set_cons_zero, List.set_cons_succ]
        refine reg_one 15 (m1 := (bitsA 18 65535)) rfl (by kernel_rfl) rfl (by kernel_rfl) ?_
        intro K hK
        go_simp
        refine hK _ _ ?_
        clear hK K
        refine reg_one 16 (m1 := (bitsA 18 131071)) rfl (by kernel_rfl) rfl (by kernel_rfl) ?_
        intro K hK
        refine wp_app_one 49 rfl u8T u8I (by decide) _ _ (by rfl) _ w1.heap.size _ (mixL la lb lc k) (by rfl) ho _ (by rfl) (wf_u8b e2.1 e2.2) (by rw [mixL_len]; omega) (by have := hbw.size; simpa using this) ?_
        intro v8 w8 ho8 hg8
        replace hbw := hbw.trans ((hg8.below (by have := hbw.size; simpa using this) (fun g hg => (ho.at_base g hg).1)))
        refine hK _ _ ?_
        clear hK K
        simp only [List.setIfInBounds_toArray, List.set_cons_zero, List.set_cons_succ]
        rotate_left
        all_goals
          refine reg_take 17 (d := 8) (v := ?_) (listed' := (bitsA 18 262143)) rfl rfl (by kernel_rfl) (by kernel_rfl) (by kernel_rfl) (by kernel_rfl) (fun _ _ _ h => h) (by rfl) ?_ ?_
          rotate_left
          · (intro w; go_simp; try with_reducible rfl)
          simp only [List.setIfInBounds_toArray, List.set_cons_zero, List.set_cons_succ]
          refine reg_done (by kernel_rfl) ?_
        all_goals
          go_wp2
          go_roundw
          case rel => exact ⟨k + 1, by omega, by go_num, ho8, hbw⟩
          case measure => simp [intOf] <;> omega
      · obtain rfl : k = n := by omega
        obtain ⟨am, cm, rfl⟩ := ho.shapeN k (mixL_len _ _ _ _)
        have hm := ho.rd
        have hs := sum_mix la lb lc k (by rw [ha.len]; omega) (by rw [hbb.len]; omega) (by rw [hcc.len]; omega) (by
          intro l hl i hi
          simp only [List.mem_cons, List.not_mem_nil, or_false] at hl
          rcases hl with rfl | rfl | rfl
          · exact ha.byte i (by omega)
          · exact hbb.byte i (by omega)
          · exact hcc.byte i (by omega))
        go_wp2
        have hb2 := hb.trans ((hbw.drew).mono hb.size)
        replace ha := (ha.below hbw.drew).take k hna
        replace hbb := (hbb.below hbw.drew).take k hnb
        replace hcc := (hcc.below hbw.drew).take k hnc
        replace hm := hm.below (Below.refl wr.heap.size wr).drew
        have hW : Kept0 wr.drew wr.drew := ⟨Below.refl _ _⟩
        generalize mixL la lb lc k = lm at *
        generalize la.take k = ta at *
        generalize lb.take k = tb at *
        generalize lc.take k = tc at *
        clear ho hbw
        have s0 : (0 : Int) ≤ (k : Int) := by omega
        have sa : (k : Int) ≤ (ca : Int) := by omega
        have sb : (k : Int) ≤ (cb : Int) := by omega
        have sc : (k : Int) ≤ (cc : Int) := by omega
        refine reg_start (by kernel_rfl) 22 rfl (by kernel_rfl) ?_
        refine reg_take 0 (d := 50) (v := ?_) (listed' := (bitsA 22 1)) rfl rfl (by kernel_rfl) (by kernel_rfl) (by kernel_rfl) (by kernel_rfl) (fun _ _ _ h => h) (by rfl) ?_ ?_
        rotate_left
        · (intro w; go_simp; try with_reducible rfl)
        simp only [List.setIfInBounds_toArray, List.set_cons_zero, List.set_cons_succ]
        refine reg_take 3 (d := 53) (v := ?_) (listed' := (bitsA 22 9)) rfl rfl (by kernel_rfl) (by kernel_rfl) (by kernel_rfl) (by kernel_rfl) (fun _ _ _ h => h) (by rfl) ?_ ?_
        rotate_left
        · (intro w; go_simp; try with_reducible rfl)
        simp only [List.setIfInBounds_toArray, List.set_cons_zero, List.set_cons_succ]
        refine reg_take 4 (d := 54) (v := ?_) (listed' := (bitsA 22 25)) rfl rfl (by kernel_rfl) (by kernel_rfl) (by kernel_rfl) (by kernel_rfl) (fun _ _ _ h => h) (by rfl) ?_ ?_
        rotate_left
        · (intro w; go_simp; try with_reducible rfl)
        simp only [List.setIfInBounds_toArray, List.set_cons_zero, List.set_cons_succ]
        refine reg_take 5 (d := 55) (v := ?_) (listed' := (bitsA 22 57)) rfl rfl (by kernel_rfl) (by kernel_rfl) (by kernel_rfl) (by kernel_rfl) (fun _ _ _ h => h) (by rfl) ?_ ?_
        rotate_left
        · (intro w; go_simp; try with_reducible rfl)
        simp only [List.setIfInBounds_toArray, List.set_cons_zero, List.set_cons_succ]
        refine reg_take 8 (d := 58) (v := ?_) (listed' := (bitsA 22 313)) rfl rfl (by kernel_rfl) (by kernel_rfl) (by kernel_rfl) (by kernel_rfl) (fun _ _ _ h => h) (by rfl) ?_ ?_
        rotate_left
        · (intro w; go_simp; try with_reducible rfl)
        simp only [List.setIfInBounds_toArray, List.set_cons_zero, List.set_cons_succ]
        refine reg_take 9 (d := 59) (v := ?_) (listed' := (bitsA 22 825)) rfl rfl (by kernel_rfl) (by kernel_rfl) (by kernel_rfl) (by kernel_rfl) (fun _ _ _ h => h) (by rfl) ?_ ?_
        rotate_left
        · (intro w; go_simp; try with_reducible rfl)
        simp only [List.setIfInBounds_toArray, List.set_cons_zero, List.set_cons_succ]
        refine reg_take 10 (d := 60) (v := ?_) (listed' := (bitsA 22 1849)) rfl rfl (by kernel_rfl) (by kernel_rfl) (by kernel_rfl) (by kernel_rfl) (fun _ _ _ h => h) (by rfl) ?_ ?_
        rotate_left
        · (intro w; go_simp; try with_reducible rfl)
        simp only [List.setIfInBounds_toArray, List.set_cons_zero, List.set_cons_succ]
        refine reg_take 14 (d := 64) (v := ?_) (listed' := (bitsA 22 18233)) rfl rfl (by kernel_rfl) (by kernel_rfl) (by kernel_rfl) (by kernel_rfl) (fun _ _ _ h => h) (by rfl) ?_ ?_
        rotate_left
        · (intro w; go_simp; try with_reducible rfl)
        simp only [List.setIfInBounds_toArray, List.set_cons_zero, List.set_cons_succ]
        refine reg_take 15 (d := 65) (v := ?_) (listed' := (bitsA 22 51001)) rfl rfl (by kernel_rfl) (by kernel_rfl) (by kernel_rfl) (by kernel_rfl) (fun _ _ _ h => h) (by rfl) ?_ ?_
        rotate_left
        · (intro w; go_simp; try with_reducible rfl)
        simp only [List.setIfInBounds_toArray, List.set_cons_zero, List.set_cons_succ]
        refine reg_take 16 (d := 66) (v := ?_) (listed' := (bitsA 22 116537)) rfl rfl (by kernel_rfl) (by kernel_rfl) (by kernel_rfl) (by kernel_rfl) (fun _ _ _ h => h) (by rfl) ?_ ?_
        rotate_left
        · (intro w; go_simp; try with_reducible rfl)
        simp only [List.setIfInBounds_toArray, List.set_cons_zero, List.set_cons_succ]
        refine reg_four 1 6 11 17 (m1 := (bitsA 22 116539)) (m2 := (bitsA 22 116601)) (m3 := (bitsA 22 118585)) (m4 := (bitsA 22 247609)) rfl (by kernel_rfl) rfl rfl (by kernel_rfl) rfl rfl (by kernel_rfl) rfl rfl (by kernel_rfl) rfl (by kernel_rfl) ?_ ?_ ?_ ?_
        intro K hK
        go_simp
        have hp0 := PartsAt.one (hm.kept hW) 22
        try simp only [World.size_alloc, World.size_drew] at hp0
        replace hW := hW.more (.cells #[.slice am k cm] 22)
        refine hK _ _ ?_
        clear hK K
        refine reg_four 2 6 11 17 (m1 := (bitsA 22 116543)) (m2 := (bitsA 22 116603)) (m3 := (bitsA 22 118587)) (m4 := (bitsA 22 247611)) rfl (by kernel_rfl) rfl rfl (by kernel_rfl) rfl rfl (by kernel_rfl) rfl rfl (by kernel_rfl) rfl (by kernel_rfl) ?_ ?_ ?_ ?_
        intro K hK
        go_simp
        refine (sum_one _ _ _ _ hp0).mono ?_
        rintro e wn ⟨rfl, hbn⟩
        clear hp0
        replace hW := hW.thenB hbn
        clear hbn
        refine hK _ _ ?_
        clear hK K
        refine reg_three 6 11 17 (m1 := (bitsA 22 116607)) (m2 := (bitsA 22 118591)) (m3 := (bitsA 22 247615)) rfl (by kernel_rfl) rfl rfl (by kernel_rfl) rfl rfl (by kernel_rfl) rfl (by kernel_rfl) ?_ ?_ ?_
        intro K hK
        go_simp
        have hp1 := PartsAt.one (ha.kept hW) 22
        try simp only [World.size_alloc, World.size_drew] at hp1
        replace hW := hW.more (.cells #[.slice aa k ca] 22)
        refine hK _ _ ?_
        clear hK K
        refine reg_three 7 11 17 (m1 := (bitsA 22 116735)) (m2 := (bitsA 22 118655)) (m3 := (bitsA 22 247679)) rfl (by kernel_rfl) rfl rfl (by kernel_rfl) rfl rfl (by kernel_rfl) rfl (by kernel_rfl) ?_ ?_ ?_
        intro K hK
        go_simp
        refine (sum_one _ _ _ _ hp1).mono ?_
        rintro e wn ⟨rfl, hbn⟩
        clear hp1
        replace hW := hW.thenB hbn
        clear hbn
        refine hK _ _ ?_
        clear hK K
        refine reg_two 11 17 (m1 := (bitsA 22 118783)) (m2 := (bitsA 22 247807)) rfl (by kernel_rfl) rfl rfl (by kernel_rfl) rfl (by kernel_rfl) ?_ ?_
        intro K hK
        go_simp
        have hp2 := PartsAt.one (hbb.kept hW) 22
        try simp only [World.size_alloc, World.size_drew] at hp2
        replace hW := hW.more (.cells #[.slice ab k cb] 22)
        refine hK _ _ ?_
        clear hK K
        refine reg_two 12 17 (m1 := (bitsA 22 122879)) (m2 := (bitsA 22 249855)) rfl (by kernel_rfl) rfl rfl (by kernel_rfl) rfl (by kernel_rfl) ?_ ?_
        intro K hK
        go_simp
        refine (sum_one _ _ _ _ hp2).mono ?_
        rintro e wn ⟨rfl, hbn⟩
        clear hp2
        replace hW := hW.thenB hbn
        clear hbn
        refine hK _ _ ?_
        clear hK K
        refine reg_take 13 (d := 63) (v := ?_) (listed' := (bitsA 22 131071)) rfl rfl (by kernel_rfl) (by kernel_rfl) (by kernel_rfl) (by kernel_rfl) (fun _ _ _ h => h) (by rfl) ?_ ?_
        rotate_left
        · (intro w; go_simp; try with_reducible rfl)
        simp only [List.setIfInBounds_toArray, List.set_cons_zero, List.set_cons_succ]
        refine reg_one 17 (m1 := (bitsA 22 262143)) rfl (by kernel_rfl) rfl (by kernel_rfl) ?_
        intro K hK
        go_simp
        have hp3 := PartsAt.one (hcc.kept hW) 22
        try simp only [World.size_alloc, World.size_drew] at hp3
        replace hW := hW.more (.cells #[.slice ac k cc] 22)
        refine hK _ _ ?_
        clear hK K
        refine reg_one 18 (m1 := (bitsA 22 524287)) rfl (by kernel_rfl) rfl (by kernel_rfl) ?_
        intro K hK
        go_simp
        refine (sum_one _ _ _ _ hp3).mono ?_
        rintro e wn ⟨rfl, hbn⟩
        clear hp3
        replace hW := hW.thenB hbn
        clear hbn
        refine hK _ _ ?_
        clear hK K
        rotate_left
        intro K hK
        go_simp
        have hp3 := PartsAt.one (hcc.kept hW) 22
        try simp only [World.size_alloc, World.size_drew] at hp3
        replace hp2 := hp2.alloc (.cells #[.slice ac k cc] 22)
        replace hW := hW.more (.cells #[.slice ac k cc] 22)
        refine hK _ _ ?_
        clear hK K
        refine reg_one 12 (m1 := (bitsA 22 253951)) rfl (by kernel_rfl) rfl (by kernel_rfl) ?_
        intro K hK
        go_simp
        refine (sum_one _ _ _ _ hp2).mono ?_
        rintro e wn ⟨rfl, hbn⟩
        clear hp2
        replace hp3 := hp3.below hbn
        replace hW := hW.thenB hbn
        clear hbn
        refine hK _ _ ?_
        clear hK K
        refine reg_take 13 (d := 63) (v := ?_) (listed' := (bitsA 22 262143)) rfl rfl (by kernel_rfl) (by kernel_rfl) (by kernel_rfl) (by kernel_rfl) (fun _ _ _ h => h) (by rfl) ?_ ?_
        rotate_left
        · (intro w; go_simp; try with_reducible rfl)
        simp only [List.setIfInBounds_toArray, List.set_cons_zero, List.set_cons_succ]
        refine reg_one 18 (m1 := (bitsA 22 524287)) rfl (by kernel_rfl) rfl (by kernel_rfl) ?_
        intro K hK
        go_simp
        refine (sum_one _ _ _ _ hp3).mono ?_
        rintro e wn ⟨rfl, hbn⟩
        clear hp3
        replace hW := hW.thenB hbn
        clear hbn
        refine hK _ _ ?_
        clear hK K
        rotate_left
        intro K hK
        go_simp
        have hp3 := PartsAt.one (hcc.kept hW) 22
        try simp only [World.size_alloc, World.size_drew] at hp3
        replace hW := hW.more (.cells #[.slice ac k cc] 22)
        refine hK _ _ ?_
        clear hK K
        refine reg_one 11 (m1 := (bitsA 22 249855)) rfl (by kernel_rfl) rfl (by kernel_rfl) ?_
        intro K hK
        go_simp
        have hp2 := PartsAt.one (hbb.kept hW) 22
        try simp only [World.size_alloc, World.size_drew] at hp2
        replace hp3 := hp3.alloc (.cells #[.slice ab k cb] 22)
        replace hW := hW.more (.cells #[.slice ab k cb] 22)
        refine hK _ _ ?_
        clear hK K
        refine reg_one 12 (m1 := (bitsA 22 253951)) rfl (by kernel_rfl) rfl (by kernel_rfl) ?_
        intro K hK
        go_simp
        refine (sum_one _ _ _ _ hp2).mono ?_
        rintro e wn ⟨rfl, hbn⟩
        clear hp2
        replace hp3 := hp3.below hbn
        replace hW := hW.thenB hbn
        clear hbn
        refine hK _ _ ?_
        clear hK K
        refine reg_take 13 (d := 63) (v := ?_) (listed' := (bitsA 22 262143)) rfl rfl (by kernel_rfl) (by kernel_rfl) (by kernel_rfl) (by kernel_rfl) (fun _ _ _ h => h) (by rfl) ?_ ?_
        rotate_left
        · (intro w; go_simp; try with_reducible rfl)
        simp only [List.setIfInBounds_toArray, List.set_cons_zero, List.set_cons_succ]
        refine reg_one 18 (m1 := (bitsA 22 524287)) rfl (by kernel_rfl) rfl (by kernel_rfl) ?_
        intro K hK
        go_simp
        refine (sum_one _ _ _ _ hp3).mono ?_
        rintro e wn ⟨rfl, hbn⟩
        clear hp3
        replace hW := hW.thenB hbn
        clear hbn
        refine hK _ _ ?_
        clear hK K
        rotate_left
        intro K hK
        go_simp
        have hp2 := PartsAt.one (hbb.kept hW) 22
        try simp only [World.size_alloc, World.size_drew] at hp2
        replace hp1 := hp1.alloc (.cells #[.slice ab k cb] 22)
        replace hW := hW.more (.cells #[.slice ab k cb] 22)
        refine hK _ _ ?_
        clear hK K
        refine reg_two 7 17 (m1 := (bitsA 22 118783)) (m2 := (bitsA 22 249727)) rfl (by kernel_rfl) rfl rfl (by kernel_rfl) rfl (by kernel_rfl) ?_ ?_
        intro K hK
        go_simp
        refine (sum_one _ _ _ _ hp1).mono ?_
        rintro e wn ⟨rfl, hbn⟩
        clear hp1
        replace hp2 := hp2.below hbn
        replace hW := hW.thenB hbn
        clear hbn
        refine hK _ _ ?_
        clear hK K
        refine reg_two 12 17 (m1 := (bitsA 22 122879)) (m2 := (bitsA 22 249855)) rfl (by kernel_rfl) rfl rfl (by kernel_rfl) rfl (by kernel_rfl) ?_ ?_
        intro K hK
        go_simp
        refine (sum_one _ _ _ _ hp2).mono ?_
        rintro e wn ⟨rfl, hbn⟩
        clear hp2
        replace hW := hW.thenB hbn
        clear hbn
        refine hK _ _ ?_
        clear hK K
        refine reg_take 13 (d := 63) (v := ?_) (listed' := (bitsA 22 131071)) rfl rfl (by kernel_rfl) (by kernel_rfl) (by kernel_rfl) (by kernel_rfl) (fun _ _ _ h => h) (by rfl) ?_ ?_
        rotate_left
        · (intro w; go_simp; try with_reducible rfl)
        simp only [List.setIfInBounds_toArray, List.set_cons_zero, List.set_cons_succ]
        refine reg_one 17 (m1 := (bitsA 22 262143)) rfl (by kernel_rfl) rfl (by kernel_rfl) ?_
        intro K hK
        go_simp
        have hp3 := PartsAt.one (hcc.kept hW) 22
        try simp only [World.size_alloc, World.size_drew] at hp3
        replace hW := hW.more (.cells #[.slice ac k cc] 22)
        refine hK _ _ ?_
        clear hK K
        refine reg_one 18 (m1 := (bitsA 22 524287)) rfl (by kernel_rfl) rfl (by kernel_rfl) ?_
        intro K hK
        go_simp
        refine (sum_one _ _ _ _ hp3).mono ?_
        rintro e wn ⟨rfl, hbn⟩
        clear hp3
        replace hW := hW.thenB hbn
        clear hbn
        refine hK _ _ ?_
        clear hK K
        rotate_left
        intro K hK
        go_simp
        have hp3 := PartsAt.one (hcc.kept hW) 22
        try simp only [World.size_alloc, World.size_drew] at hp3
        replace hp2 := hp2.alloc (.cells #[.slice ac k cc] 22)
        replace hW := hW.more (.cells #[.slice ac k cc] 22)
        refine hK _ _ ?_
        clear hK K
        refine reg_one 12 (m1 := (bitsA 22 253951)) rfl (by kernel_rfl) rfl (by kernel_rfl) ?_
        intro K hK
        go_simp
        refine (sum_one _ _ _ _ hp2).mono ?_
        rintro e wn ⟨rfl, hbn⟩
        clear hp2
        replace hp3 := hp3.below hbn
        replace hW := hW.thenB hbn
        clear hbn
        refine hK _ _ ?_
        clear hK K
        refine reg_take 13 (d := 63) (v := ?_) (listed' := (bitsA 22 262143)) rfl rfl (by kernel_rfl) (by kernel_rfl) (by kernel_rfl) (by kernel_rfl) (fun _ _ _ h => h) (by rfl) ?_ ?_
        rotate_left
        · (intro w; go_simp; try with_reducible rfl)
        simp only [List.setIfInBounds_toArray, List.set_cons_zero, List.set_cons_succ]
        refine reg_one 18 (m1 := (bitsA 22 524287)) rfl (by kernel_rfl) rfl (by kernel_rfl) ?_
        intro K hK
        go_simp
        refine (sum_one _ _ _ _ hp3).mono ?_
        rintro e wn ⟨rfl, hbn⟩
        clear hp3
        replace hW := hW.thenB hbn
        clear hbn
        refine hK _ _ ?_
        clear hK K
        rotate_left
        intro K hK
        go_simp
        have hp3 := PartsAt.one (hcc.kept hW) 22
        try simp only [World.size_alloc, World.size_drew] at hp3
        replace hp1 := hp1.alloc (.cells #[.slice ac k cc] 22)
        replace hp2 := hp2.alloc (.cells #[.slice ac k cc] 22)
        replace hW := hW.more (.cells #[.slice ac k cc] 22)
        refine hK _ _ ?_
        clear hK K
        refine reg_one 7 (m1 := (bitsA 22 249855)) rfl (by kernel_rfl) rfl (by kernel_rfl) ?_
        intro K hK
        go_simp
        refine (sum_one _ _ _ _ hp1).mono ?_
        rintro e wn ⟨rfl, hbn⟩
        clear hp1
        replace hp2 := hp2.below hbn
        replace hp3 := hp3.below hbn
        replace hW := hW.thenB hbn
        clear hbn
        refine hK _ _ ?_
        clear hK K
        refine reg_one 12 (m1 := (bitsA 22 253951)) rfl (by kernel_rfl) rfl (by kernel_rfl) ?_
        intro K hK
        go_simp
        refine (sum_one _ _ _ _ hp2).mono ?_
        rintro e wn ⟨rfl, hbn⟩
        clear hp2
        replace hp3 := hp3.below hbn
        replace hW := hW.thenB hbn
        clear hbn
        refine hK _ _ ?_
        clear hK K
        refine reg_take 13 (d := 63) (v := ?_) (listed' := (bitsA 22 262143)) rfl rfl (by kernel_rfl) (by kernel_rfl) (by kernel_rfl) (by kernel_rfl) (fun _ _ _ h => h) (by rfl) ?_ ?_
        rotate_left
        · (intro w; go_simp; try with_reducible rfl)
        simp only [List.setIfInBounds_toArray, List.set_cons_zero, List.set_cons_succ]
        refine reg_one 18 (m1 := (bitsA 22 524287)) rfl (by kernel_rfl) rfl (by kernel_rfl) ?_
        intro K hK
        go_simp
        refine (sum_one _ _ _ _ hp3).mono ?_
        rintro e wn ⟨rfl, hbn⟩
        clear hp3
        replace hW := hW.thenB hbn
        clear hbn
        refine hK _ _ ?_
        clear hK K
        rotate_left
        intro K hK
        go_simp
        have hp3 := PartsAt.one (hcc.kept hW) 22
        try simp only [World.size_alloc, World.size_drew] at hp3
        replace hp1 := hp1.alloc (.cells #[.slice ac k cc] 22)
        replace hW := hW.more (.cells #[.slice ac k cc] 22)
        refine hK _ _ ?_
        clear hK K
        refine reg_two 7 11 (m1 := (bitsA 22 247807)) (m2 := (bitsA 22 249727)) rfl (by kernel_rfl) rfl rfl (by kernel_rfl) rfl (by kernel_rfl) ?_ ?_
        intro K hK
        go_simp
        refine (sum_one _ _ _ _ hp1).mono ?_
        rintro e wn ⟨rfl, hbn⟩
        clear hp1
        replace hp3 := hp3.below hbn
        replace hW := hW.thenB hbn
        clear hbn
        refine hK _ _ ?_
        clear hK K
        refine reg_one 11 (m1 := (bitsA 22 249855)) rfl (by kernel_rfl) rfl (by kernel_rfl) ?_
        intro K hK
        go_simp
        have hp2 := PartsAt.one (hbb.kept hW) 22
        try simp only [World.size_alloc, World.size_drew] at hp2
        replace hp3 := hp3.alloc (.cells #[.slice ab k cb] 22)
        replace hW := hW.more (.cells #[.slice ab k cb] 22)
        refine hK _ _ ?_
        clear hK K
        refine reg_one 12 (m1 := (bitsA 22 253951)) rfl (by kernel_rfl) rfl (by kernel_rfl) ?_
        intro K hK
        go_simp
        refine (sum_one _ _ _ _ hp2).mono ?_
        rintro e wn ⟨rfl, hbn⟩
        clear hp2
        replace hp3 := hp3.below hbn
        replace hW := hW.thenB hbn
        clear hbn
        refine hK _ _ ?_
        clear hK K
        refine reg_take 13 (d := 63) (v := ?_) (listed' := (bitsA 22 262143)) rfl rfl (by kernel_rfl) (by kernel_rfl) (by kernel_rfl) (by kernel_rfl) (fun _ _ _ h => h) (by rfl) ?_ ?_
        rotate_left
        · (intro w; go_simp; try with_reducible rfl)
        simp only [List.setIfInBounds_toArray, List.set_cons_zero, List.set_cons_succ]
        refine reg_one 18 (m1 := (bitsA 22 524287)) rfl (by kernel_rfl) rfl (by kernel_rfl) ?_
        intro K hK
        go_simp
        refine (sum_one _ _ _ _ hp3).mono ?_
        rintro e wn ⟨rfl, hbn⟩
        clear hp3
        replace hW := hW.thenB hbn
        clear hbn
        refine hK _ _ ?_
        clear hK K
        rotate_left
        intro K hK
        go_simp
        have hp2 := PartsAt.one (hbb.kept hW) 22
        try simp only [World.size_alloc, World.size_drew] at hp2
        replace hp1 := hp1.alloc (.cells #[.slice ab k cb] 22)
        replace hp3 := hp3.alloc (.cells #[.slice ab k cb] 22)
        replace hW := hW.more (.cells #[.slice ab k cb] 22)
        refine hK _ _ ?_
        clear hK K
        refine reg_one 7 (m1 := (bitsA 22 249855)) rfl (by kernel_rfl) rfl (by kernel_rfl) ?_
        intro K hK
        go_simp
        refine (sum_one _ _ _ _ hp1).mono ?_
        rintro e wn ⟨rfl, hbn⟩
        clear hp1
        replace hp2 := hp2.below hbn
        replace hp3 := hp3.below hbn
        replace hW := hW.thenB hbn
        clear hbn
        refine hK _ _ ?_
        clear hK K
        refine reg_one 12 (m1 := (bitsA 22 253951)) rfl (by kernel_rfl) rfl (by kernel_rfl) ?_
        intro K hK
        go_simp
        refine (sum_one _ _ _ _ hp2).mono ?_
        rintro e wn ⟨rfl, hbn⟩
        clear hp2
        replace hp3 := hp3.below hbn
        replace hW := hW.thenB hbn
        clear hbn
        refine hK _ _ ?_
        clear hK K
        refine reg_take 13 (d := 63) (v := ?_) (listed' := (bitsA 22 262143)) rfl rfl (by kernel_rfl) (by kernel_rfl) (by kernel_rfl) (by kernel_rfl) (fun _ _ _ h => h) (by rfl) ?_ ?_
        rotate_left
        · (intro w; go_simp; try with_reducible rfl)
        simp only [List.setIfInBounds_toArray, List.set_cons_zero, List.set_cons_succ]
        refine reg_one 18 (m1 := (bitsA 22 524287)) rfl (by kernel_rfl) rfl (by kernel_rfl) ?_
        intro K hK
        go_simp
        refine (sum_one _ _ _ _ hp3).mono ?_
        rintro e wn ⟨rfl, hbn⟩
        clear hp3
        replace hW := hW.thenB hbn
        clear hbn
        refine hK _ _ ?_
        clear hK K
        rotate_left
        intro K hK
        go_simp
        have hp2 := PartsAt.one (hbb.kept hW) 22
        try simp only [World.size_alloc, World.size_drew] at hp2
        replace hW := hW.more (.cells #[.slice ab k cb] 22)
        refine hK _ _ ?_
        clear hK K
        refine reg_two 6 17 (m1 := (bitsA 22 118655)) (m2 := (bitsA 22 249663)) rfl (by kernel_rfl) rfl rfl (by kernel_rfl) rfl (by kernel_rfl) ?_ ?_
        intro K hK
        go_simp
        have hp1 := PartsAt.one (ha.kept hW) 22
        try simp only [World.size_alloc, World.size_drew] at hp1
        replace hp2 := hp2.alloc (.cells #[.slice aa k ca] 22)
        replace hW := hW.more (.cells #[.slice aa k ca] 22)
        refine hK _ _ ?_
        clear hK K
        refine reg_two 7 17 (m1 := (bitsA 22 118783)) (m2 := (bitsA 22 249727)) rfl (by kernel_rfl) rfl rfl (by kernel_rfl) rfl (by kernel_rfl) ?_ ?_
        intro K hK
        go_simp
        refine (sum_one _ _ _ _ hp1).mono ?_
        rintro e wn ⟨rfl, hbn⟩
        clear hp1
        replace hp2 := hp2.below hbn
        replace hW := hW.thenB hbn
        clear hbn
        refine hK _ _ ?_
        clear hK K
        refine reg_two 12 17 (m1 := (bitsA 22 122879)) (m2 := (bitsA 22 249855)) rfl (by kernel_rfl) rfl rfl (by kernel_rfl) rfl (by kernel_rfl) ?_ ?_
        intro K hK
        go_simp
        refine (sum_one _ _ _ _ hp2).mono ?_
        rintro e wn ⟨rfl, hbn⟩
        clear hp2
        replace hW := hW.thenB hbn
        clear hbn
        refine hK _ _ ?_
        clear hK K
        refine reg_take 13 (d := 63) (v := ?_) (listed' := (bitsA 22 131071)) rfl rfl (by kernel_rfl) (by kernel_rfl) (by kernel_rfl) (by kernel_rfl) (fun _ _ _ h => h) (by rfl) ?_ ?_
        rotate_left
        · (intro w; go_simp; try with_reducible rfl)
        simp only [List.setIfInBounds_toArray, List.set_cons_zero, List.set_cons_succ]
        refine reg_one 17 (m1 := (bitsA 22 262143)) rfl (by kernel_rfl) rfl (by kernel_rfl) ?_
        intro K hK
        go_simp
        have hp3 := PartsAt.one (hcc.kept hW) 22
        try simp only [World.size_alloc, World.size_drew] at hp3
        replace hW := hW.more (.cells #[.slice ac k cc] 22)
        refine hK _ _ ?_
        clear hK K
        refine reg_one 18 (m1 := (bitsA 22 524287)) rfl (by kernel_rfl) rfl (by kernel_rfl) ?_
        intro K hK
        go_simp
        refine (sum_one _ _ _ _ hp3).mono ?_
        rintro e wn ⟨rfl, hbn⟩
        clear hp3
        replace hW := hW.thenB hbn
        clear hbn
        refine hK _ _ ?_
        clear hK K
        rotate_left
        intro K hK
        go_simp
        have hp3 := PartsAt.one (hcc.kept hW) 22
        try simp only [World.size_alloc, World.size_drew] at hp3
        replace hp2 := hp2.alloc (.cells #[.slice ac k cc] 22)
        replace hW := hW.more (.cells #[.slice ac k cc] 22)
        refine hK _ _ ?_
        clear hK K
        refine reg_one 12 (m1 := (bitsA 22 253951)) rfl (by kernel_rfl) rfl (by kernel_rfl) ?_
        intro K hK
        go_simp
        refine (sum_one _ _ _ _ hp2).mono ?_
        rintro e wn ⟨rfl, hbn⟩
        clear hp2
        replace hp3 := hp3.below hbn
        replace hW := hW.thenB hbn
        clear hbn
        refine hK _ _ ?_
        clear hK K
        refine reg_take 13 (d := 63) (v := ?_) (listed' := (bitsA 22 262143)) rfl rfl (by kernel_rfl) (by kernel_rfl) (by kernel_rfl) (by kernel_rfl) (fun _ _ _ h => h) (by rfl) ?_ ?_
        rotate_left
        · (intro w; go_simp; try with_reducible rfl)
        simp only [List.setIfInBounds_toArray, List.set_cons_zero, List.set_cons_succ]
        refine reg_one 18 (m1 := (bitsA 22 524287)) rfl (by kernel_rfl) rfl (by kernel_rfl) ?_
        intro K hK
        go_simp
        refine (sum_one _ _ _ _ hp3).mono ?_
        rintro e wn ⟨rfl, hbn⟩
        clear hp3
        replace hW := hW.thenB hbn
        clear hbn
        refine hK _ _ ?_
        clear hK K
        rotate_left
        intro K hK
        go_simp
        have hp3 := PartsAt.one (hcc.kept hW) 22
        try simp only [World.size_alloc, World.size_drew] at hp3
        replace hp1 := hp1.alloc (.cells #[.slice ac k cc] 22)
        replace hp2 := hp2.alloc (.cells #[.slice ac k cc] 22)
        replace hW := hW.more (.cells #[.slice ac k cc] 22)
        refine hK _ _ ?_
        clear hK K
        refine reg_one 7 (m1 := (bitsA 22 249855)) rfl (by kernel_rfl) rfl (by kernel_rfl) ?_
        intro K hK
        go_simp
        refine (sum_one _ _ _ _ hp1).mono ?_
        rintro e wn ⟨rfl, hbn⟩
        clear hp1
        replace hp2 := hp2.below hbn
        replace hp3 := hp3.below hbn
        replace hW := hW.thenB hbn
        clear hbn
        refine hK _ _ ?_
        clear hK K
        refine reg_one 12 (m1 := (bitsA 22 253951)) rfl (by kernel_rfl) rfl (by kernel_rfl) ?_
        intro K hK
        go_simp
        refine (sum_one _ _ _ _ hp2).mono ?_
        rintro e wn ⟨rfl, hbn⟩
        clear hp2
        replace hp3 := hp3.below hbn
        replace hW := hW.thenB hbn
        clear hbn
        refine hK _ _ ?_
        clear hK K
        refine reg_take 13 (d := 63) (v := ?_) (listed' := (bitsA 22 262143)) rfl rfl (by kernel_rfl) (by kernel_rfl) (by kernel_rfl) (by kernel_rfl) (fun _ _ _ h => h) (by rfl) ?_ ?_
        rotate_left
        · (intro w; go_simp; try with_reducible rfl)
        simp only [List.setIfInBounds_toArray, List.set_cons_zero, List.set_cons_succ]
        refine reg_one 18 (m1 := (bitsA 22 524287)) rfl (by kernel_rfl) rfl (by kernel_rfl) ?_
        intro K hK
        go_simp
        refine (sum_one _ _ _ _ hp3).mono ?_
        rintro e wn ⟨rfl, hbn⟩
        clear hp3
        replace hW := hW.thenB hbn
        clear hbn
        refine hK _ _ ?_
        clear hK K
        rotate_left
        intro K hK
        go_simp
        have hp3 := PartsAt.one (hcc.kept hW) 22
        try simp only [World.size_alloc, World.size_drew] at hp3
        replace hp2 := hp2.alloc (.cells #[.slice ac k cc] 22)
        replace hW := hW.more (.cells #[.slice ac k cc] 22)
        refine hK _ _ ?_
        clear hK K
        refine reg_one 6 (m1 := (bitsA 22 249727)) rfl (by kernel_rfl) rfl (by kernel_rfl) ?_
        intro K hK
        go_simp
        have hp1 := PartsAt.one (ha.kept hW) 22
        try simp only [World.size_alloc, World.size_drew] at hp1
        replace hp2 := hp2.alloc (.cells #[.slice aa k ca] 22)
        replace hp3 := hp3.alloc (.cells #[.slice aa k ca] 22)
        replace hW := hW.more (.cells #[.slice aa k ca] 22)
        refine hK _ _ ?_
        clear hK K
        refine reg_one 7 (m1 := (bitsA 22 249855)) rfl (by kernel_rfl) rfl (by kernel_rfl) ?_
        intro K hK
        go_simp
        refine (sum_one _ _ _ _ hp1).mono ?_
        rintro e wn ⟨rfl, hbn⟩
        clear hp1
        replace hp2 := hp2.below hbn
        replace hp3 := hp3.below hbn
        replace hW := hW.thenB hbn
        clear hbn
        refine hK _ _ ?_
        clear hK K
        refine reg_one 12 (m1 := (bitsA 22 253951)) rfl (by kernel_rfl) rfl (by kernel_rfl) ?_
        intro K hK
        go_simp
        refine (sum_one _ _ _ _ hp2).mono ?_
        rintro e wn ⟨rfl, hbn⟩
        clear hp2
        replace hp3 := hp3.below hbn
        replace hW := hW.thenB hbn
        clear hbn
        refine hK _ _ ?_
        clear hK K
        refine reg_take 13 (d := 63) (v := ?_) (listed' := (bitsA 22 262143)) rfl rfl (by kernel_rfl) (by kernel_rfl) (by kernel_rfl) (by kernel_rfl) (fun _ _ _ h => h) (by rfl) ?_ ?_
        rotate_left
        · (intro w; go_simp; try with_reducible rfl)
        simp only [List.setIfInBounds_toArray, List.set_cons_zero, List.set_cons_succ]
        refine reg_one 18 (m1 := (bitsA 22 524287)) rfl (by kernel_rfl) rfl (by kernel_rfl) ?_
        intro K hK
        go_simp
        refine (sum_one _ _ _ _ hp3).mono ?_
        rintro e wn ⟨rfl, hbn⟩
        clear hp3
        replace hW := hW.thenB hbn
        clear hbn
        refine hK _ _ ?_
        clear hK K
        rotate_left
        intro K hK
        go_simp
        have hp3 := PartsAt.one (hcc.kept hW) 22
        try simp only [World.size_alloc, World.size_drew] at hp3
        replace hW := hW.more (.cells #[.slice ac k cc] 22)
        refine hK _ _ ?_
        clear hK K
        refine reg_two 6 11 (m1 := (bitsA 22 247679)) (m2 := (bitsA 22 249663)) rfl (by kernel_rfl) rfl rfl (by kernel_rfl) rfl (by kernel_rfl) ?_ ?_
        intro K hK
        go_simp
        have hp1 := PartsAt.one (ha.kept hW) 22
        try simp only [World.size_alloc, World.size_drew] at hp1
        replace hp3 := hp3.alloc (.cells #[.slice aa k ca] 22)
        replace hW := hW.more (.cells #[.slice aa k ca] 22)
        refine hK _ _ ?_
        clear hK K
        refine reg_two 7 11 (m1 := (bitsA 22 247807)) (m2 := (bitsA 22 249727)) rfl (by kernel_rfl) rfl rfl (by kernel_rfl) rfl (by kernel_rfl) ?_ ?_
        intro K hK
        go_simp
        refine (sum_one _ _ _ _ hp1).mono ?_
        rintro e wn ⟨rfl, hbn⟩
        clear hp1
        replace hp3 := hp3.below hbn
        replace hW := hW.thenB hbn
        clear hbn
        refine hK _ _ ?_
        clear hK K
        refine reg_one 11 (m1 := (bitsA 22 249855)) rfl (by kernel_rfl) rfl (by kernel_rfl) ?_
        intro K hK
        go_simp
        have hp2 := PartsAt.one (hbb.kept hW) 22
        try simp only [World.size_alloc, World.size_drew] at hp2
        replace hp3 := hp3.alloc (.cells #[.slice ab k cb] 22)
        replace hW := hW.more (.cells #[.slice ab k cb] 22)
        refine hK _ _ ?_
        clear hK K
        refine reg_one 12 (m1 := (bitsA 22 253951)) rfl (by kernel_rfl) rfl (by kernel_rfl) ?_
        intro K hK
        go_simp
        refine (sum_one _ _ _ _ hp2).mono ?_
        rintro e wn ⟨rfl, hbn⟩
        clear hp2
        replace hp3 := hp3.below hbn
        replace hW := hW.thenB hbn
        clear hbn
        refine hK _ _ ?_
        clear hK K
        refine reg_take 13 (d := 63) (v := ?_) (listed' := (bitsA 22 262143)) rfl rfl (by kernel_rfl) (by kernel_rfl) (by kernel_rfl) (by kernel_rfl) (fun _ _ _ h => h) (by rfl) ?_ ?_
        rotate_left
        · (intro w; go_simp; try with_reducible rfl)
        simp only [List.setIfInBounds_toArray, List.set_cons_zero, List.set_cons_succ]
        refine reg_one 18 (m1 := (bitsA 22 524287)) rfl (by kernel_rfl) rfl (by kernel_rfl) ?_
        intro K hK
        go_simp
        refine (sum_one _ _ _ _ hp3).mono ?_
        rintro e wn ⟨rfl, hbn⟩
        clear hp3
        replace hW := hW.thenB hbn
        clear hbn
        refine hK _ _ ?_
        clear hK K
        rotate_left
        intro K hK
        go_simp
        have hp2 := PartsAt.one (hbb.kept hW) 22
        try simp only [World.size_alloc, World.size_drew] at hp2
        replace hp1 := hp1.alloc (.cells #[.slice ab k cb] 22)
        replace hp3 := hp3.alloc (.cells #[.slice ab k cb] 22)
        replace hW := hW.more (.cells #[.slice ab k cb] 22)
        refine hK _ _ ?_
        clear hK K
        refine reg_one 7 (m1 := (bitsA 22 249855)) rfl (by kernel_rfl) rfl (by kernel_rfl) ?_
        intro K hK
        go_simp
        refine (sum_one _ _ _ _ hp1).mono ?_
        rintro e wn ⟨rfl, hbn⟩
        clear hp1
        replace hp2 := hp2.below hbn
        replace hp3 := hp3.below hbn
        replace hW := hW.thenB hbn
        clear hbn
        refine hK _ _ ?_
        clear hK K
        refine reg_one 12 (m1 := (bitsA 22 253951)) rfl (by kernel_rfl) rfl (by kernel_rfl) ?_
        intro K hK
        go_simp
        refine (sum_one _ _ _ _ hp2).mono ?_
        rintro e wn ⟨rfl, hbn⟩
        clear hp2
        replace hp3 := hp3.below hbn
        replace hW := hW.thenB hbn
        clear hbn
        refine hK _ _ ?_
        clear hK K
        refine reg_take 13 (d := 63) (v := ?_) (listed' := (bitsA 22 262143)) rfl rfl (by kernel_rfl) (by kernel_rfl) (by kernel_rfl) (by kernel_rfl) (fun _ _ _ h => h) (by rfl) ?_ ?_
        rotate_left
        · (intro w; go_simp; try with_reducible rfl)
        simp only [List.setIfInBounds_toArray, List.set_cons_zero, List.set_cons_succ]
        refine reg_one 18 (m1 := (bitsA 22 524287)) rfl (by kernel_rfl) rfl (by kernel_rfl) ?_
        intro K hK
        go_simp
        refine (sum_one _ _ _ _ hp3).mono ?_
        rintro e wn ⟨rfl, hbn⟩
        clear hp3
        replace hW := hW.thenB hbn
        clear hbn
        refine hK _ _ ?_
        clear hK K
        rotate_left
        intro K hK
        go_simp
        have hp2 := PartsAt.one (hbb.kept hW) 22
        try simp only [World.size_alloc, World.size_drew] at hp2
        replace hp3 := hp3.alloc (.cells #[.slice ab k cb] 22)
        replace hW := hW.more (.cells #[.slice ab k cb] 22)
        refine hK _ _ ?_
        clear hK K
        refine reg_one 6 (m1 := (bitsA 22 249727)) rfl (by kernel_rfl) rfl (by kernel_rfl) ?_
        intro K hK
        go_simp
        have hp1 := PartsAt.one (ha.kept hW) 22
        try simp only [World.size_alloc, World.size_drew] at hp1
        replace hp2 := hp2.alloc (.cells #[.slice aa k ca] 22)
        replace hp3 := hp3.alloc (.cells #[.slice aa k ca] 22)
        replace hW := hW.more (.cells #[.slice aa k ca] 22)
        refine hK _ _ ?_
        clear hK K
        refine reg_one 7 (m1 := (bitsA 22 249855)) rfl (by kernel_rfl) rfl (by kernel_rfl) ?_
        intro K hK
        go_simp
        refine (sum_one _ _ _ _ hp1).mono ?_
        rintro e wn ⟨rfl, hbn⟩
        clear hp1
        replace hp2 := hp2.below hbn
        replace hp3 := hp3.below hbn
        replace hW := hW.thenB hbn
        clear hbn
        refine hK _ _ ?_
        clear hK K
        refine reg_one 12 (m1 := (bitsA 22 253951)) rfl (by kernel_rfl) rfl (by kernel_rfl) ?_
        intro K hK
        go_simp
        refine (sum_one _ _ _ _ hp2).mono ?_
        rintro e wn ⟨rfl, hbn⟩
        clear hp2
        replace hp3 := hp3.below hbn
        replace hW := hW.thenB hbn
        clear hbn
        refine hK _ _ ?_
        clear hK K
        refine reg_take 13 (d := 63) (v := ?_) (listed' := (bitsA 22 262143)) rfl rfl (by kernel_rfl) (by kernel_rfl) (by kernel_rfl) (by kernel_rfl) (fun _ _ _ h => h) (by rfl) ?_ ?_
        rotate_left
        · (intro w; go_simp; try with_reducible rfl)
        simp only [List.setIfInBounds_toArray, List.set_cons_zero, List.set_cons_succ]
        refine reg_one 18 (m1 := (bitsA 22 524287)) rfl (by kernel_rfl) rfl (by kernel_rfl) ?_
        intro K hK
        go_simp
        refine (sum_one _ _ _ _ hp3).mono ?_
        rintro e wn ⟨rfl, hbn⟩
        clear hp3
        replace hW := hW.thenB hbn
        clear hbn
        refine hK _ _ ?_
        clear hK K
        rotate_left
        intro K hK
        go_simp
        have hp1 := PartsAt.one (ha.kept hW) 22
        try simp only [World.size_alloc, World.size_drew] at hp1
        replace hp0 := hp0.alloc (.cells #[.slice aa k ca] 22)
        replace hW := hW.more (.cells #[.slice aa k ca] 22)
        refine hK _ _ ?_
        clear hK K
        refine reg_three 2 11 17 (m1 := (bitsA 22 116607)) (m2 := (bitsA 22 118651)) (m3 := (bitsA 22 247675)) rfl (by kernel_rfl) rfl rfl (by kernel_rfl) rfl rfl (by kernel_rfl) rfl (by kernel_rfl) ?_ ?_ ?_
        intro K hK
        go_simp
        refine (sum_one _ _ _ _ hp0).mono ?_
        rintro e wn ⟨rfl, hbn⟩
        clear hp0
        replace hp1 := hp1.below hbn
        replace hW := hW.thenB hbn
        clear hbn
        refine hK _ _ ?_
        clear hK K
        refine reg_three 7 11 17 (m1 := (bitsA 22 116735)) (m2 := (bitsA 22 118655)) (m3 := (bitsA 22 247679)) rfl (by kernel_rfl) rfl rfl (by kernel_rfl) rfl rfl (by kernel_rfl) rfl (by kernel_rfl) ?_ ?_ ?_
        intro K hK
        go_simp
        refine (sum_one _ _ _ _ hp1).mono ?_
        rintro e wn ⟨rfl, hbn⟩
        clear hp1
        replace hW := hW.thenB hbn
        clear hbn
        refine hK _ _ ?_
        clear hK K
        refine reg_two 11 17 (m1 := (bitsA 22 118783)) (m2 := (bitsA 22 247807)) rfl (by kernel_rfl) rfl rfl (by kernel_rfl) rfl (by kernel_rfl) ?_ ?_
        intro K hK
        go_simp
        have hp2 := PartsAt.one (hbb.kept hW) 22
        try simp only [World.size_alloc, World.size_drew] at hp2
        replace hW := hW.more (.cells #[.slice ab k cb] 22)
        refine hK _ _ ?_
        clear hK K
        refine reg_two 12 17 (m1 := (bitsA 22 122879)) (m2 := (bitsA 22 249855)) rfl (by kernel_rfl) rfl rfl (by kernel_rfl) rfl (by kernel_rfl) ?_ ?_
        intro K hK
        go_simp
        refine (sum_one _ _ _ _ hp2).mono ?_
        rintro e wn ⟨rfl, hbn⟩
        clear hp2
        replace hW := hW.thenB hbn
        clear hbn
        refine hK _ _ ?_
        clear hK K
        refine reg_take 13 (d := 63) (v := ?_) (listed' := (bitsA 22 131071)) rfl rfl (by kernel_rfl) (by kernel_rfl) (by kernel_rfl) (by kernel_rfl) (fun _ _ _ h => h) (by rfl) ?_ ?_
        rotate_left
        · (intro w; go_simp; try with_reducible rfl)
        simp only [List.setIfInBounds_toArray, List.set_cons_zero, List.set_cons_succ]
        refine reg_one 17 (m1 := (bitsA 22 262143)) rfl (by kernel_rfl) rfl (by kernel_rfl) ?_
        intro K hK
        go_simp
        have hp3 := PartsAt.one (hcc.kept hW) 22
        try simp only [World.size_alloc, World.size_drew] at hp3
        replace hW := hW.more (.cells #[.slice ac k cc] 22)
        refine hK _ _ ?_
        clear hK K
        refine reg_one 18 (m1 := (bitsA 22 524287)) rfl (by kernel_rfl) rfl (by kernel_rfl) ?_
        intro K hK
        go_simp
        refine (sum_one _ _ _ _ hp3).mono ?_
        rintro e wn ⟨rfl, hbn⟩
        clear hp3
        replace hW := hW.thenB hbn
        clear hbn
        refine hK _ _ ?_
        clear hK K
        rotate_left
        intro K hK
        go_simp
        have hp3 := PartsAt.one (hcc.kept hW) 22
        try simp only [World.size_alloc, World.size_drew] at hp3
        replace hp2 := hp2.alloc (.cells #[.slice ac k cc] 22)
        replace hW := hW.more (.cells #[.slice ac k cc] 22)
        refine hK _ _ ?_
        clear hK K
        refine reg_one 12 (m1 := (bitsA 22 253951)) rfl (by kernel_rfl) rfl (by kernel_rfl) ?_
        intro K hK
        go_simp
        refine (sum_one _ _ _ _ hp2).mono ?_
        rintro e wn ⟨rfl, hbn⟩
        clear hp2
        replace hp3 := hp3.below hbn
        replace hW := hW.thenB hbn
        clear hbn
        refine hK _ _ ?_
        clear hK K
        refine reg_take 13 (d := 63) (v := ?_) (listed' := (bitsA 22 262143)) rfl rfl (by kernel_rfl) (by kernel_rfl) (by kernel_rfl) (by kernel_rfl) (fun _ _ _ h => h) (by rfl) ?_ ?_
        rotate_left
        · (intro w; go_simp; try with_reducible rfl)
        simp only [List.setIfInBounds_toArray, List.set_cons_zero, List.set_cons_succ]
        refine reg_one 18 (m1 := (bitsA 22 524287)) rfl (by kernel_rfl) rfl (by kernel_rfl) ?_
        intro K hK
        go_simp
        refine (sum_one _ _ _ _ hp3).mono ?_
        rintro e wn ⟨rfl, hbn⟩
        clear hp3
        replace hW := hW.thenB hbn
        clear hbn
        refine hK _ _ ?_
        clear hK K
        rotate_left
        intro K hK
        go_simp
        have hp3 := PartsAt.one (hcc.kept hW) 22
        try simp only [World.size_alloc, World.size_drew] at hp3
        replace hW := hW.more (.cells #[.slice ac k cc] 22)
        refine hK _ _ ?_
        clear hK K
        refine reg_one 11 (m1 := (bitsA 22 249855)) rfl (by kernel_rfl) rfl (by kernel_rfl) ?_
        intro K hK
        go_simp
        have hp2 := PartsAt.one (hbb.kept hW) 22
        try simp only [World.size_alloc, World.size_drew] at hp2
        replace hp3 := hp3.alloc (.cells #[.slice ab k cb] 22)
        replace hW := hW.more (.cells #[.slice ab k cb] 22)
        refine hK _ _ ?_
        clear hK K
        refine reg_one 12 (m1 := (bitsA 22 253951)) rfl (by kernel_rfl) rfl (by kernel_rfl) ?_
        intro K hK
        go_simp
        refine (sum_one _ _ _ _ hp2).mono ?_
        rintro e wn ⟨rfl, hbn⟩
        clear hp2
        replace hp3 := hp3.below hbn
        replace hW := hW.thenB hbn
        clear hbn
        refine hK _ _ ?_
        clear hK K
        refine reg_take 13 (d := 63) (v := ?_) (listed' := (bitsA 22 262143)) rfl rfl (by kernel_rfl) (by kernel_rfl) (by kernel_rfl) (by kernel_rfl) (fun _ _ _ h => h) (by rfl) ?_ ?_
        rotate_left
        · (intro w; go_simp; try with_reducible rfl)
        simp only [List.setIfInBounds_toArray, List.set_cons_zero, List.set_cons_succ]
        refine reg_one 18 (m1 := (bitsA 22 524287)) rfl (by kernel_rfl) rfl (by kernel_rfl) ?_
        intro K hK
        go_simp
        refine (sum_one _ _ _ _ hp3).mono ?_
        rintro e wn ⟨rfl, hbn⟩
        clear hp3
        replace hW := hW.thenB hbn
        clear hbn
        refine hK _ _ ?_
        clear hK K
        rotate_left
        intro K hK
        go_simp
        have hp2 := PartsAt.one (hbb.kept hW) 22
        try simp only [World.size_alloc, World.size_drew] at hp2
        replace hp1 := hp1.alloc (.cells #[.slice ab k cb] 22)
        replace hW := hW.more (.cells #[.slice ab k cb] 22)
        refine hK _ _ ?_
        clear hK K
        refine reg_two 7 17 (m1 := (bitsA 22 118783)) (m2 := (bitsA 22 249727)) rfl (by kernel_rfl) rfl rfl (by kernel_rfl) rfl (by kernel_rfl) ?_ ?_
        intro K hK
        go_simp
        refine (sum_one _ _ _ _ hp1).mono ?_
        rintro e wn ⟨rfl, hbn⟩
        clear hp1
        replace hp2 := hp2.below hbn
        replace hW := hW.thenB hbn
        clear hbn
        refine hK _ _ ?_
        clear hK K
        refine reg_two 12 17 (m1 := (bitsA 22 122879)) (m2 := (bitsA 22 249855)) rfl (by kernel_rfl) rfl rfl (by kernel_rfl) rfl (by kernel_rfl) ?_ ?_
        intro K hK
        go_simp
        refine (sum_one _ _ _ _ hp2).mono ?_
        rintro e wn ⟨rfl, hbn⟩
        clear hp2
        replace hW := hW.thenB hbn
        clear hbn
        refine hK _ _ ?_
        clear hK K
        refine reg_take 13 (d := 63) (v := ?_) (listed' := (bitsA 22 131071)) rfl rfl (by kernel_rfl) (by kernel_rfl) (by kernel_rfl) (by kernel_rfl) (fun _ _ _ h => h) (by rfl) ?_ ?_
        rotate_left
        · (intro w; go_simp; try with_reducible rfl)
        simp only [List.setIfInBounds_toArray, List.set_cons_zero, List.set_cons_succ]
        refine reg_one 17 (m1 := (bitsA 22 262143)) rfl (by kernel_rfl) rfl (by kernel_rfl) ?_
        intro K hK
        go_simp
        have hp3 := PartsAt.one (hcc.kept hW) 22
        try simp only [World.size_alloc, World.size_drew] at hp3
        replace hW := hW.more (.cells #[.slice ac k cc] 22)
        refine hK _ _ ?_
        clear hK K
        refine reg_one 18 (m1 := (bitsA 22 524287)) rfl (by kernel_rfl) rfl (by kernel_rfl) ?_
        intro K hK
        go_simp
        refine (sum_one _ _ _ _ hp3).mono ?_
        rintro e wn ⟨rfl, hbn⟩
        clear hp3
        replace hW := hW.thenB hbn
        clear hbn
        refine hK _ _ ?_
        clear hK K
        rotate_left
        intro K hK
        go_simp
        have hp3 := PartsAt.one (hcc.kept hW) 22
        try simp only [World.size_alloc, World.size_drew] at hp3
        replace hp2 := hp2.alloc (.cells #[.slice ac k cc] 22)
        replace hW := hW.more (.cells #[.slice ac k cc] 22)
        refine hK _ _ ?_
        clear hK K
        refine reg_one 12 (m1 := (bitsA 22 253951)) rfl (by kernel_rfl) rfl (by kernel_rfl) ?_
        intro K hK
        go_simp
        refine (sum_one _ _ _ _ hp2).mono ?_
        rintro e wn ⟨rfl, hbn⟩
        clear hp2
        replace hp3 := hp3.below hbn
        replace hW := hW.thenB hbn
        clear hbn
        refine hK _ _ ?_
        clear hK K
        refine reg_take 13 (d := 63) (v := ?_) (listed' := (bitsA 22 262143)) rfl rfl (by kernel_rfl) (by kernel_rfl) (by kernel_rfl) (by kernel_rfl) (fun _ _ _ h => h) (by rfl) ?_ ?_
        rotate_left
        · (intro w; go_simp; try with_reducible rfl)
        simp only [List.setIfInBounds_toArray, List.set_cons_zero, List.set_cons_succ]
        refine reg_one 18 (m1 := (bitsA 22 524287)) rfl (by kernel_rfl) rfl (by kernel_rfl) ?_
        intro K hK
        go_simp
        refine (sum_one _ _ _ _ hp3).mono ?_
        rintro e wn ⟨rfl, hbn⟩
        clear hp3
        replace hW := hW.thenB hbn
        clear hbn
        refine hK _ _ ?_
        clear hK K
        rotate_left
        intro K hK
        go_simp
        have hp3 := PartsAt.one (hcc.kept hW) 22
        try simp only [World.size_alloc, World.size_drew] at hp3
        replace hp1 := hp1.alloc (.cells #[.slice ac k cc] 22)
        replace hp2 := hp2.alloc (.cells #[.slice ac k cc] 22)
        replace hW := hW.more (.cells #[.slice ac k cc] 22)
        refine hK _ _ ?_
        clear hK K
        refine reg_one 7 (m1 := (bitsA 22 249855)) rfl (by kernel_rfl) rfl (by kernel_rfl) ?_
        intro K hK
        go_simp
        refine (sum_one _ _ _ _ hp1).mono ?_
        rintro e wn ⟨rfl, hbn⟩
        clear hp1
        replace hp2 := hp2.below hbn
        replace hp3 := hp3.below hbn
        replace hW := hW.thenB hbn
        clear hbn
        refine hK _ _ ?_
        clear hK K
        refine reg_one 12 (m1 := (bitsA 22 253951)) rfl (by kernel_rfl) rfl (by kernel_rfl) ?_
        intro K hK
        go_simp
        refine (sum_one _ _ _ _ hp2).mono ?_
        rintro e wn ⟨rfl, hbn⟩
        clear hp2
        replace hp3 := hp3.below hbn
        replace hW := hW.thenB hbn
        clear hbn
        refine hK _ _ ?_
        clear hK K
        refine reg_take 13 (d := 63) (v := ?_) (listed' := (bitsA 22 262143)) rfl rfl (by kernel_rfl) (by kernel_rfl) (by kernel_rfl) (by kernel_rfl) (fun _ _ _ h => h) (by rfl) ?_ ?_
        rotate_left
        · (intro w; go_simp; try with_reducible rfl)
        simp only [List.setIfInBounds_toArray, List.set_cons_zero, List.set_cons_succ]
        refine reg_one 18 (m1 := (bitsA 22 524287)) rfl (by kernel_rfl) rfl (by kernel_rfl) ?_
        intro K hK
        go_simp
        refine (sum_one _ _ _ _ hp3).mono ?_
        rintro e wn ⟨rfl, hbn⟩
        clear hp3
        replace hW := hW.thenB hbn
        clear hbn
        refine hK _ _ ?_
        clear hK K
        rotate_left
        intro K hK
        go_simp
        have hp3 := PartsAt.one (hcc.kept hW) 22
        try simp only [World.size_alloc, World.size_drew] at hp3
        replace hp1 := hp1.alloc (.cells #[.slice ac k cc] 22)
        replace hW := hW.more (.cells #[.slice ac k cc] 22)
        refine hK _ _ ?_
        clear hK K
        refine reg_two 7 11 (m1 := (bitsA 22 247807)) (m2 := (bitsA 22 249727)) rfl (by kernel_rfl) rfl rfl (by kernel_rfl) rfl (by kernel_rfl) ?_ ?_
        intro K hK
        go_simp
        refine (sum_one _ _ _ _ hp1).mono ?_
        rintro e wn ⟨rfl, hbn⟩
        clear hp1
        replace hp3 := hp3.below hbn
        replace hW := hW.thenB hbn
        clear hbn
        refine hK _ _ ?_
        clear hK K
        refine reg_one 11 (m1 := (bitsA 22 249855)) rfl (by kernel_rfl) rfl (by kernel_rfl) ?_
        intro K hK
        go_simp
        have hp2 := PartsAt.one (hbb.kept hW) 22
        try simp only [World.size_alloc, World.size_drew] at hp2
        replace hp3 := hp3.alloc (.cells #[.slice ab k cb] 22)
        replace hW := hW.more (.cells #[.slice ab k cb] 22)
        refine hK _ _ ?_
        clear hK K
        refine reg_one 12 (m1 := (bitsA 22 253951)) rfl (by kernel_rfl) rfl (by kernel_rfl) ?_
        intro K hK
        go_simp
        refine (sum_one _ _ _ _ hp2).mono ?_
        rintro e wn ⟨rfl, hbn⟩
        clear hp2
        replace hp3 := hp3.below hbn
        replace hW := hW.thenB hbn
        clear hbn
        refine hK _ _ ?_
        clear hK K
        refine reg_take 13 (d := 63) (v := ?_) (listed' := (bitsA 22 262143)) rfl rfl (by kernel_rfl) (by kernel_rfl) (by kernel_rfl) (by kernel_rfl) (fun _ _ _ h => h) (by rfl) ?_ ?_
        rotate_left
        · (intro w; go_simp; try with_reducible rfl)
        simp only [List.setIfInBounds_toArray, List.set_cons_zero, List.set_cons_succ]
        refine reg_one 18 (m1 := (bitsA 22 524287)) rfl (by kernel_rfl) rfl (by kernel_rfl) ?_
        intro K hK
        go_simp
        refine (sum_one _ _ _ _ hp3).mono ?_
        rintro e wn ⟨rfl, hbn⟩
        clear hp3
        replace hW := hW.thenB hbn
        clear hbn
        refine hK _ _ ?_
        clear hK K
        rotate_left
        intro K hK
        go_simp
        have hp2 := PartsAt.one (hbb.kept hW) 22
        try simp only [World.size_alloc, World.size_drew] at hp2
        replace hp1 := hp1.alloc (.cells #[.slice ab k cb] 22)
        replace hp3 := hp3.alloc (.cells #[.slice ab k cb] 22)
        replace hW := hW.more (.cells #[.slice ab k cb] 22)
        refine hK _ _ ?_
        clear hK K
        refine reg_one 7 (m1 := (bitsA 22 249855)) rfl (by kernel_rfl) rfl (by kernel_rfl) ?_
        intro K hK
        go_simp
        refine (sum_one _ _ _ _ hp1).mono ?_
        rintro e wn ⟨rfl, hbn⟩
        clear hp1
        replace hp2 := hp2.below hbn
        replace hp3 := hp3.below hbn
        replace hW := hW.thenB hbn
        clear hbn
        refine hK _ _ ?_
        clear hK K
        refine reg_one 12 (m1 := (bitsA 22 253951)) rfl (by kernel_rfl) rfl (by kernel_rfl) ?_
        intro K hK
        go_simp
        refine (sum_one _ _ _ _ hp2).mono ?_
        rintro e wn ⟨rfl, hbn⟩
        clear hp2
        replace hp3 := hp3.below hbn
        replace hW := hW.thenB hbn
        clear hbn
        refine hK _ _ ?_
        clear hK K
        refine reg_take 13 (d := 63) (v := ?_) (listed' := (bitsA 22 262143)) rfl rfl (by kernel_rfl) (by kernel_rfl) (by kernel_rfl) (by kernel_rfl) (fun _ _ _ h => h) (by rfl) ?_ ?_
        rotate_left
        · (intro w; go_simp; try with_reducible rfl)
        simp only [List.setIfInBounds_toArray, List.set_cons_zero, List.set_cons_succ]
        refine reg_one 18 (m1 := (bitsA 22 524287)) rfl (by kernel_rfl) rfl (by kernel_rfl) ?_
        intro K hK
        go_simp
        refine (sum_one _ _ _ _ hp3).mono ?_
        rintro e wn ⟨rfl, hbn⟩
        clear hp3
        replace hW := hW.thenB hbn
        clear hbn
        refine hK _ _ ?_
        clear hK K
        rotate_left
        intro K hK
        go_simp
        have hp2 := PartsAt.one (hbb.kept hW) 22
        try simp only [World.size_alloc, World.size_drew] at hp2
        replace hp0 := hp0.alloc (.cells #[.slice ab k cb] 22)
        replace hp1 := hp1.alloc (.cells #[.slice ab k cb] 22)
        replace hW := hW.more (.cells #[.slice ab k cb] 22)
        refine hK _ _ ?_
        clear hK K
        refine reg_two 2 17 (m1 := (bitsA 22 118655)) (m2 := (bitsA 22 249723)) rfl (by kernel_rfl) rfl rfl (by kernel_rfl) rfl (by kernel_rfl) ?_ ?_
        intro K hK
        go_simp
        refine (sum_one _ _ _ _ hp0).mono ?_
        rintro e wn ⟨rfl, hbn⟩
        clear hp0
        replace hp1 := hp1.below hbn
        replace hp2 := hp2.below hbn
        replace hW := hW.thenB hbn
        clear hbn
        refine hK _ _ ?_
        clear hK K
        refine reg_two 7 17 (m1 := (bitsA 22 118783)) (m2 := (bitsA 22 249727)) rfl (by kernel_rfl) rfl rfl (by kernel_rfl) rfl (by kernel_rfl) ?_ ?_
        intro K hK
        go_simp
        refine (sum_one _ _ _ _ hp1).mono ?_
        rintro e wn ⟨rfl, hbn⟩
        clear hp1
        replace hp2 := hp2.below hbn
        replace hW := hW.thenB hbn
        clear hbn
        refine hK _ _ ?_
        clear hK K
        refine reg_two 12 17 (m1 := (bitsA 22 122879)) (m2 := (bitsA 22 249855)) rfl (by kernel_rfl) rfl rfl (by kernel_rfl) rfl (by kernel_rfl) ?_ ?_
        intro K hK
        go_simp
        refine (sum_one _ _ _ _ hp2).mono ?_
        rintro e wn ⟨rfl, hbn⟩
        clear hp2
        replace hW := hW.thenB hbn
        clear hbn
        refine hK _ _ ?_
        clear hK K
        refine reg_take 13 (d := 63) (v := ?_) (listed' := (bitsA 22 131071)) rfl rfl (by kernel_rfl) (by kernel_rfl) (by kernel_rfl) (by kernel_rfl) (fun _ _ _ h => h) (by rfl) ?_ ?_
        rotate_left
        · (intro w; go_simp; try with_reducible rfl)
        simp only [List.setIfInBounds_toArray, List.set_cons_zero, List.set_cons_succ]
        refine reg_one 17 (m1 := (bitsA 22 262143)) rfl (by kernel_rfl) rfl (by kernel_rfl) ?_
        intro K hK
        go_simp
        have hp3 := PartsAt.one (hcc.kept hW) 22
        try simp only [World.size_alloc, World.size_drew] at hp3
        replace hW := hW.more (.cells #[.slice ac k cc] 22)
        refine hK _ _ ?_
        clear hK K
        refine reg_one 18 (m1 := (bitsA 22 524287)) rfl (by kernel_rfl) rfl (by kernel_rfl) ?_
        intro K hK
        go_simp
        refine (sum_one _ _ _ _ hp3).mono ?_
        rintro e wn ⟨rfl, hbn⟩
        clear hp3
        replace hW := hW.thenB hbn
        clear hbn
        refine hK _ _ ?_
        clear hK K
        rotate_left
        intro K hK
        go_simp
        have hp3 := PartsAt.one (hcc.kept hW) 22
        try simp only [World.size_alloc, World.size_drew] at hp3
        replace hp2 := hp2.alloc (.cells #[.slice ac k cc] 22)
        replace hW := hW.more (.cells #[.slice ac k cc] 22)
        refine hK _ _ ?_
        clear hK K
        refine reg_one 12 (m1 := (bitsA 22 253951)) rfl (by kernel_rfl) rfl (by kernel_rfl) ?_
        intro K hK
        go_simp
        refine (sum_one _ _ _ _ hp2).mono ?_
        rintro e wn ⟨rfl, hbn⟩
        clear hp2
        replace hp3 := hp3.below hbn
        replace hW := hW.thenB hbn
        clear hbn
        refine hK _ _ ?_
        clear hK K
        refine reg_take 13 (d := 63) (v := ?_) (listed' := (bitsA 22 262143)) rfl rfl (by kernel_rfl) (by kernel_rfl) (by kernel_rfl) (by kernel_rfl) (fun _ _ _ h => h) (by rfl) ?_ ?_
        rotate_left
        · (intro w; go_simp; try with_reducible rfl)
        simp only [List.setIfInBounds_toArray, List.set_cons_zero, List.set_cons_succ]
        refine reg_one 18 (m1 := (bitsA 22 524287)) rfl (by kernel_rfl) rfl (by kernel_rfl) ?_
        intro K hK
        go_simp
        refine (sum_one _ _ _ _ hp3).mono ?_
        rintro e wn ⟨rfl, hbn⟩
        clear hp3
        replace hW := hW.thenB hbn
        clear hbn
        refine hK _ _ ?_
        clear hK K
        rotate_left
        intro K hK
        go_simp
        have hp3 := PartsAt.one (hcc.kept hW) 22
        try simp only [World.size_alloc, World.size_drew] at hp3
        replace hp1 := hp1.alloc (.cells #[.slice ac k cc] 22)
        replace hp2 := hp2.alloc (.cells #[.slice ac k cc] 22)
        replace hW := hW.more (.cells #[.slice ac k cc] 22)
        refine hK _ _ ?_
        clear hK K
        refine reg_one 7 (m1 := (bitsA 22 249855)) rfl (by kernel_rfl) rfl (by kernel_rfl) ?_
        intro K hK
        go_simp
        refine (sum_one _ _ _ _ hp1).mono ?_
        rintro e wn ⟨rfl, hbn⟩
        clear hp1
        replace hp2 := hp2.below hbn
        replace hp3 := hp3.below hbn
        replace hW := hW.thenB hbn
        clear hbn
        refine hK _ _ ?_
        clear hK K
        refine reg_one 12 (m1 := (bitsA 22 253951)) rfl (by kernel_rfl) rfl (by kernel_rfl) ?_
        intro K hK
        go_simp
        refine (sum_one _ _ _ _ hp2).mono ?_
        rintro e wn ⟨rfl, hbn⟩
        clear hp2
        replace hp3 := hp3.below hbn
        replace hW := hW.thenB hbn
        clear hbn
        refine hK _ _ ?_
        clear hK K
        refine reg_take 13 (d := 63) (v := ?_) (listed' := (bitsA 22 262143)) rfl rfl (by kernel_rfl) (by kernel_rfl) (by kernel_rfl) (by kernel_rfl) (fun _ _ _ h => h) (by rfl) ?_ ?_
        rotate_left
        · (intro w; go_simp; try with_reducible rfl)
        simp only [List.setIfInBounds_toArray, List.set_cons_zero, List.set_cons_succ]
        refine reg_one 18 (m1 := (bitsA 22 524287)) rfl (by kernel_rfl) rfl (by kernel_rfl) ?_
        intro K hK
        go_simp
        refine (sum_one _ _ _ _ hp3).mono ?_
        rintro e wn ⟨rfl, hbn⟩
        clear hp3
        replace hW := hW.thenB hbn
        clear hbn
        refine hK _ _ ?_
        clear hK K
        rotate_left
        intro K hK
        go_simp
        have hp3 := PartsAt.one (hcc.kept hW) 22
        try simp only [World.size_alloc, World.size_drew] at hp3
        replace hp0 := hp0.alloc (.cells #[.slice ac k cc] 22)
        replace hp1 := hp1.alloc (.cells #[.slice ac k cc] 22)
        replace hp2 := hp2.alloc (.cells #[.slice ac k cc] 22)
        replace hW := hW.more (.cells #[.slice ac k cc] 22)
        refine hK _ _ ?_
        clear hK K
        refine reg_one 2 (m1 := (bitsA 22 249727)) rfl (by kernel_rfl) rfl (by kernel_rfl) ?_
        intro K hK
        go_simp
        refine (sum_one _ _ _ _ hp0).mono ?_
        rintro e wn ⟨rfl, hbn⟩
        clear hp0
        replace hp1 := hp1.below hbn
        replace hp2 := hp2.below hbn
        replace hp3 := hp3.below hbn
        replace hW := hW.thenB hbn
        clear hbn
        refine hK _ _ ?_
        clear hK K
        refine reg_one 7 (m1 := (bitsA 22 249855)) rfl (by kernel_rfl) rfl (by kernel_rfl) ?_
        intro K hK
        go_simp
        refine (sum_one _ _ _ _ hp1).mono ?_
        rintro e wn ⟨rfl, hbn⟩
        clear hp1
        replace hp2 := hp2.below hbn
        replace hp3 := hp3.below hbn
        replace hW := hW.thenB hbn
        clear hbn
        refine hK _ _ ?_
        clear hK K
        refine reg_one 12 (m1 := (bitsA 22 253951)) rfl (by kernel_rfl) rfl (by kernel_rfl) ?_
        intro K hK
        go_simp
        refine (sum_one _ _ _ _ hp2).mono ?_
        rintro e wn ⟨rfl, hbn⟩
        clear hp2
        replace hp3 := hp3.below hbn
        replace hW := hW.thenB hbn
        clear hbn
        refine hK _ _ ?_
        clear hK K
        refine reg_take 13 (d := 63) (v := ?_) (listed' := (bitsA 22 262143)) rfl rfl (by kernel_rfl) (by kernel_rfl) (by kernel_rfl) (by kernel_rfl) (fun _ _ _ h => h) (by rfl) ?_ ?_
        rotate_left
        · (intro w; go_simp; try with_reducible rfl)
        simp only [List.setIfInBounds_toArray, List.set_cons_zero, List.set_cons_succ]
        refine reg_one 18 (m1 := (bitsA 22 524287)) rfl (by kernel_rfl) rfl (by kernel_rfl) ?_
        intro K hK
        go_simp
        refine (sum_one _ _ _ _ hp3).mono ?_
        rintro e wn ⟨rfl, hbn⟩
        clear hp3
        replace hW := hW.thenB hbn
        clear hbn
        refine hK _ _ ?_
        clear hK K
        rotate_left
        intro K hK
        go_simp
        have hp3 := PartsAt.one (hcc.kept hW) 22
        try simp only [World.size_alloc, World.size_drew] at hp3
        replace hp0 := hp0.alloc (.cells #[.slice ac k cc] 22)
        replace hp1 := hp1.alloc (.cells #[.slice ac k cc] 22)
        replace hW := hW.more (.cells #[.slice ac k cc] 22)
        refine hK _ _ ?_
        clear hK K
        refine reg_two 2 11 (m1 := (bitsA 22 247679)) (m2 := (bitsA 22 249723)) rfl (by kernel_rfl) rfl rfl (by kernel_rfl) rfl (by kernel_rfl) ?_ ?_
        intro K hK
        go_simp
        refine (sum_one _ _ _ _ hp0).mono ?_
        rintro e wn ⟨rfl, hbn⟩
        clear hp0
        replace hp1 := hp1.below hbn
        replace hp3 := hp3.below hbn
        replace hW := hW.thenB hbn
        clear hbn
        refine hK _ _ ?_
        clear hK K
        refine reg_two 7 11 (m1 := (bitsA 22 247807)) (m2 := (bitsA 22 249727)) rfl (by kernel_rfl) rfl rfl (by kernel_rfl) rfl (by kernel_rfl) ?_ ?_
        intro K hK
        go_simp
        refine (sum_one _ _ _ _ hp1).mono ?_
        rintro e wn ⟨rfl, hbn⟩
        clear hp1
        replace hp3 := hp3.below hbn
        replace hW := hW.thenB hbn
        clear hbn
        refine hK _ _ ?_
        clear hK K
        refine reg_one 11 (m1 := (bitsA 22 249855)) rfl (by kernel_rfl) rfl (by kernel_rfl) ?_
        intro K hK
        go_simp
        have hp2 := PartsAt.one (hbb.kept hW) 22
        try simp only [World.size_alloc, World.size_drew] at hp2
        replace hp3 := hp3.alloc (.cells #[.slice ab k cb] 22)
        replace hW := hW.more (.cells #[.slice ab k cb] 22)
        refine hK _ _ ?_
        clear hK K
        refine reg_one 12 (m1 := (bitsA 22 253951)) rfl (by kernel_rfl) rfl (by kernel_rfl) ?_
        intro K hK
        go_simp
        refine (sum_one _ _ _ _ hp2).mono ?_
        rintro e wn ⟨rfl, hbn⟩
        clear hp2
        replace hp3 := hp3.below hbn
        replace hW := hW.thenB hbn
        clear hbn
        refine hK _ _ ?_
        clear hK K
        refine reg_take 13 (d := 63) (v := ?_) (listed' := (bitsA 22 262143)) rfl rfl (by kernel_rfl) (by kernel_rfl) (by kernel_rfl) (by kernel_rfl) (fun _ _ _ h => h) (by rfl) ?_ ?_
        rotate_left
        · (intro w; go_simp; try with_reducible rfl)
        simp only [List.setIfInBounds_toArray, List.set_cons_zero, List.set_cons_succ]
        refine reg_one 18 (m1 := (bitsA 22 524287)) rfl (by kernel_rfl) rfl (by kernel_rfl) ?_
        intro K hK
        go_simp
        refine (sum_one _ _ _ _ hp3).mono ?_
        rintro e wn ⟨rfl, hbn⟩
        clear hp3
        replace hW := hW.thenB hbn
        clear hbn
        refine hK _ _ ?_
        clear hK K
        rotate_left
        intro K hK
        go_simp
        have hp2 := PartsAt.one (hbb.kept hW) 22
        try simp only [World.size_alloc, World.size_drew] at hp2
        replace hp1 := hp1.alloc (.cells #[.slice ab k cb] 22)
        replace hp3 := hp3.alloc (.cells #[.slice ab k cb] 22)
        replace hW := hW.more (.cells #[.slice ab k cb] 22)
        refine hK _ _ ?_
        clear hK K
        refine reg_one 7 (m1 := (bitsA 22 249855)) rfl (by kernel_rfl) rfl (by kernel_rfl) ?_
        intro K hK
        go_simp
        refine (sum_one _ _ _ _ hp1).mono ?_
        rintro e wn ⟨rfl, hbn⟩
        clear hp1
        replace hp2 := hp2.below hbn
        replace hp3 := hp3.below hbn
        replace hW := hW.thenB hbn
        clear hbn
        refine hK _ _ ?_
        clear hK K
        refine reg_one 12 (m1 := (bitsA 22 253951)) rfl (by kernel_rfl) rfl (by kernel_rfl) ?_
        intro K hK
        go_simp
        refine (sum_one _ _ _ _ hp2).mono ?_
        rintro e wn ⟨rfl, hbn⟩
        clear hp2
        replace hp3 := hp3.below hbn
        replace hW := hW.thenB hbn
        clear hbn
        refine hK _ _ ?_
        clear hK K
        refine reg_take 13 (d := 63) (v := ?_) (listed' := (bitsA 22 262143)) rfl rfl (by kernel_rfl) (by kernel_rfl) (by kernel_rfl) (by kernel_rfl) (fun _ _ _ h => h) (by rfl) ?_ ?_
        rotate_left
        · (intro w; go_simp; try with_reducible rfl)
        simp only [List.setIfInBounds_toArray, List.set_cons_zero, List.set_cons_succ]
        refine reg_one 18 (m1 := (bitsA 22 524287)) rfl (by kernel_rfl) rfl (by kernel_rfl) ?_
        intro K hK
        go_simp
        refine (sum_one _ _ _ _ hp3).mono ?_
        rintro e wn ⟨rfl, hbn⟩
        clear hp3
        replace hW := hW.thenB hbn
        clear hbn
        refine hK _ _ ?_
        clear hK K
        rotate_left
        intro K hK
        go_simp
        have hp2 := PartsAt.one (hbb.kept hW) 22
        try simp only [World.size_alloc, World.size_drew] at hp2
        replace hp0 := hp0.alloc (.cells #[.slice ab k cb] 22)
        replace hp1 := hp1.alloc (.cells #[.slice ab k cb] 22)
        replace hp3 := hp3.alloc (.cells #[.slice ab k cb] 22)
        replace hW := hW.more (.cells #[.slice ab k cb] 22)
        refine hK _ _ ?_
        clear hK K
        refine reg_one 2 (m1 := (bitsA 22 249727)) rfl (by kernel_rfl) rfl (by kernel_rfl) ?_
        intro K hK
        go_simp
        refine (sum_one _ _ _ _ hp0).mono ?_
        rintro e wn ⟨rfl, hbn⟩
        clear hp0
        replace hp1 := hp1.below hbn
        replace hp2 := hp2.below hbn
        replace hp3 := hp3.below hbn
        replace hW := hW.thenB hbn
        clear hbn
        refine hK _ _ ?_
        clear hK K
        refine reg_one 7 (m1 := (bitsA 22 249855)) rfl (by kernel_rfl) rfl (by kernel_rfl) ?_
        intro K hK
        go_simp
        refine (sum_one _ _ _ _ hp1).mono ?_
        rintro e wn ⟨rfl, hbn⟩
        clear hp1
        replace hp2 := hp2.below hbn
        replace hp3 := hp3.below hbn
        replace hW := hW.thenB hbn
        clear hbn
        refine hK _ _ ?_
        clear hK K
        refine reg_one 12 (m1 := (bitsA 22 253951)) rfl (by kernel_rfl) rfl (by kernel_rfl) ?_
        intro K hK
        go_simp
        refine (sum_one _ _ _ _ hp2).mono ?_
        rintro e wn ⟨rfl, hbn⟩
        clear hp2
        replace hp3 := hp3.below hbn
        replace hW := hW.thenB hbn
        clear hbn
        refine hK _ _ ?_
        clear hK K
        refine reg_take 13 (d := 63) (v := ?_) (listed' := (bitsA 22 262143)) rfl rfl (by kernel_rfl) (by kernel_rfl) (by kernel_rfl) (by kernel_rfl) (fun _ _ _ h => h) (by rfl) ?_ ?_
        rotate_left
        · (intro w; go_simp; try with_reducible rfl)
        simp only [List.setIfInBounds_toArray, List.set_cons_zero, List.set_cons_succ]
        refine reg_one 18 (m1 := (bitsA 22 524287)) rfl (by kernel_rfl) rfl (by kernel_rfl) ?_
        intro K hK
        go_simp
        refine (sum_one _ _ _ _ hp3).mono ?_
        rintro e wn ⟨rfl, hbn⟩
        clear hp3
        replace hW := hW.thenB hbn
        clear hbn
        refine hK _ _ ?_
        clear hK K
        rotate_left
        intro K hK
        go_simp
        have hp2 := PartsAt.one (hbb.kept hW) 22
        try simp only [World.size_alloc, World.size_drew] at hp2
        replace hp0 := hp0.alloc (.cells #[.slice ab k cb] 22)
        replace hW := hW.more (.cells #[.slice ab k cb] 22)
        refine hK _ _ ?_
        clear hK K
        refine reg_three 2 6 17 (m1 := (bitsA 22 118591)) (m2 := (bitsA 22 118651)) (m3 := (bitsA 22 249659)) rfl (by kernel_rfl) rfl rfl (by kernel_rfl) rfl rfl (by kernel_rfl) rfl (by kernel_rfl) ?_ ?_ ?_
        intro K hK
        go_simp
        refine (sum_one _ _ _ _ hp0).mono ?_
        rintro e wn ⟨rfl, hbn⟩
        clear hp0
        replace hp2 := hp2.below hbn
        replace hW := hW.thenB hbn
        clear hbn
        refine hK _ _ ?_
        clear hK K
        refine reg_two 6 17 (m1 := (bitsA 22 118655)) (m2 := (bitsA 22 249663)) rfl (by kernel_rfl) rfl rfl (by kernel_rfl) rfl (by kernel_rfl) ?_ ?_
        intro K hK
        go_simp
        have hp1 := PartsAt.one (ha.kept hW) 22
        try simp only [World.size_alloc, World.size_drew] at hp1
        replace hp2 := hp2.alloc (.cells #[.slice aa k ca] 22)
        replace hW := hW.more (.cells #[.slice aa k ca] 22)
        refine hK _ _ ?_
        clear hK K
        refine reg_two 7 17 (m1 := (bitsA 22 118783)) (m2 := (bitsA 22 249727)) rfl (by kernel_rfl) rfl rfl (by kernel_rfl) rfl (by kernel_rfl) ?_ ?_
        intro K hK
        go_simp
        refine (sum_one _ _ _ _ hp1).mono ?_
        rintro e wn ⟨rfl, hbn⟩
        clear hp1
        replace hp2 := hp2.below hbn
        replace hW := hW.thenB hbn
        clear hbn
        refine hK _ _ ?_
        clear hK K
        refine reg_two 12 17 (m1 := (bitsA 22 122879)) (m2 := (bitsA 22 249855)) rfl (by kernel_rfl) rfl rfl (by kernel_rfl) rfl (by kernel_rfl) ?_ ?_
        intro K hK
        go_simp
        refine (sum_one _ _ _ _ hp2).mono ?_
        rintro e wn ⟨rfl, hbn⟩
        clear hp2
        replace hW := hW.thenB hbn
        clear hbn
        refine hK _ _ ?_
        clear hK K
        refine reg_take 13 (d := 63) (v := ?_) (listed' := (bitsA 22 131071)) rfl rfl (by kernel_rfl) (by kernel_rfl) (by kernel_rfl) (by kernel_rfl) (fun _ _ _ h => h) (by rfl) ?_ ?_
        rotate_left
        · (intro w; go_simp; try with_reducible rfl)
        simp only [List.setIfInBounds_toArray, List.set_cons_zero, List.set_cons_succ]
        refine reg_one 17 (m1 := (bitsA 22 262143)) rfl (by kernel_rfl) rfl (by kernel_rfl) ?_
        intro K hK
        go_simp
        have hp3 := PartsAt.one (hcc.kept hW) 22
        try simp only [World.size_alloc, World.size_drew] at hp3
        replace hW := hW.more (.cells #[.slice ac k cc] 22)
        refine hK _ _ ?_
        clear hK K
        refine reg_one 18 (m1 := (bitsA 22 524287)) rfl (by kernel_rfl) rfl (by kernel_rfl) ?_
        intro K hK
        go_simp
        refine (sum_one _ _ _ _ hp3).mono ?_
        rintro e wn ⟨rfl, hbn⟩
        clear hp3
        replace hW := hW.thenB hbn
        clear hbn
        refine hK _ _ ?_
        clear hK K
        rotate_left
        intro K hK
        go_simp
        have hp3 := PartsAt.one (hcc.kept hW) 22
        try simp only [World.size_alloc, World.size_drew] at hp3
        replace hp2 := hp2.alloc (.cells #[.slice ac k cc] 22)
        replace hW := hW.more (.cells #[.slice ac k cc] 22)
        refine hK _ _ ?_
        clear hK K
        refine reg_one 12 (m1 := (bitsA 22 253951)) rfl (by kernel_rfl) rfl (by kernel_rfl) ?_
        intro K hK
        go_simp
        refine (sum_one _ _ _ _ hp2).mono ?_
        rintro e wn ⟨rfl, hbn⟩
        clear hp2
        replace hp3 := hp3.below hbn
        replace hW := hW.thenB hbn
        clear hbn
        refine hK _ _ ?_
        clear hK K
        refine reg_take 13 (d := 63) (v := ?_) (listed' := (bitsA 22 262143)) rfl rfl (by kernel_rfl) (by kernel_rfl) (by kernel_rfl) (by kernel_rfl) (fun _ _ _ h => h) (by rfl) ?_ ?_
        rotate_left
        · (intro w; go_simp; try with_reducible rfl)
        simp only [List.setIfInBounds_toArray, List.set_cons_zero, List.set_cons_succ]
        refine reg_one 18 (m1 := (bitsA 22 524287)) rfl (by kernel_rfl) rfl (by kernel_rfl) ?_
        intro K hK
        go_simp
        refine (sum_one _ _ _ _ hp3).mono ?_
        rintro e wn ⟨rfl, hbn⟩
        clear hp3
        replace hW := hW.thenB hbn
        clear hbn
        refine hK _ _ ?_
        clear hK K
        rotate_left
        intro K hK
        go_simp
        have hp3 := PartsAt.one (hcc.kept hW) 22
        try simp only [World.size_alloc, World.size_drew] at hp3
        replace hp1 := hp1.alloc (.cells #[.slice ac k cc] 22)
        replace hp2 := hp2.alloc (.cells #[.slice ac k cc] 22)
        replace hW := hW.more (.cells #[.slice ac k cc] 22)
        refine hK _ _ ?_
        clear hK K
        refine reg_one 7 (m1 := (bitsA 22 249855)) rfl (by kernel_rfl) rfl (by kernel_rfl) ?_
        intro K hK
        go_simp
        refine (sum_one _ _ _ _ hp1).mono ?_
        rintro e wn ⟨rfl, hbn⟩
        clear hp1
        replace hp2 := hp2.below hbn
        replace hp3 := hp3.below hbn
        replace hW := hW.thenB hbn
        clear hbn
        refine hK _ _ ?_
        clear hK K
        refine reg_one 12 (m1 := (bitsA 22 253951)) rfl (by kernel_rfl) rfl (by kernel_rfl) ?_
        intro K hK
        go_simp
        refine (sum_one _ _ _ _ hp2).mono ?_
        rintro e wn ⟨rfl, hbn⟩
        clear hp2
        replace hp3 := hp3.below hbn
        replace hW := hW.thenB hbn
        clear hbn
        refine hK _ _ ?_
        clear hK K
        refine reg_take 13 (d := 63) (v := ?_) (listed' := (bitsA 22 262143)) rfl rfl (by kernel_rfl) (by kernel_rfl) (by kernel_rfl) (by kernel_rfl) (fun _ _ _ h => h) (by rfl) ?_ ?_
        rotate_left
        · (intro w; go_simp; try with_reducible rfl)
        simp only [List.setIfInBounds_toArray, List.set_cons_zero, List.set_cons_succ]
        refine reg_one 18 (m1 := (bitsA 22 524287)) rfl (by kernel_rfl) rfl (by kernel_rfl) ?_
        intro K hK
        go_simp
        refine (sum_one _ _ _ _ hp3).mono ?_
        rintro e wn ⟨rfl, hbn⟩
        clear hp3
        replace hW := hW.thenB hbn
        clear hbn
        refine hK _ _ ?_
        clear hK K
        rotate_left
        intro K hK
        go_simp
        have hp3 := PartsAt.one (hcc.kept hW) 22
        try simp only [World.size_alloc, World.size_drew] at hp3
        replace hp2 := hp2.alloc (.cells #[.slice ac k cc] 22)
        replace hW := hW.more (.cells #[.slice ac k cc] 22)
        refine hK _ _ ?_
        clear hK K
        refine reg_one 6 (m1 := (bitsA 22 249727)) rfl (by kernel_rfl) rfl (by kernel_rfl) ?_
        intro K hK
        go_simp
        have hp1 := PartsAt.one (ha.kept hW) 22
        try simp only [World.size_alloc, World.size_drew] at hp1
        replace hp2 := hp2.alloc (.cells #[.slice aa k ca] 22)
        replace hp3 := hp3.alloc (.cells #[.slice aa k ca] 22)
        replace hW := hW.more (.cells #[.slice aa k ca] 22)
        refine hK _ _ ?_
        clear hK K
        refine reg_one 7 (m1 := (bitsA 22 249855)) rfl (by kernel_rfl) rfl (by kernel_rfl) ?_
        intro K hK
        go_simp
        refine (sum_one _ _ _ _ hp1).mono ?_
        rintro e wn ⟨rfl, hbn⟩
        clear hp1
        replace hp2 := hp2.below hbn
        replace hp3 := hp3.below hbn
        replace hW := hW.thenB hbn
        clear hbn
        refine hK _ _ ?_
        clear hK K
        refine reg_one 12 (m1 := (bitsA 22 253951)) rfl (by kernel_rfl) rfl (by kernel_rfl) ?_
        intro K hK
        go_simp
        refine (sum_one _ _ _ _ hp2).mono ?_
        rintro e wn ⟨rfl, hbn⟩
        clear hp2
        replace hp3 := hp3.below hbn
        replace hW := hW.thenB hbn
        clear hbn
        refine hK _ _ ?_
        clear hK K
        refine reg_take 13 (d := 63) (v := ?_) (listed' := (bitsA 22 262143)) rfl rfl (by kernel_rfl) (by kernel_rfl) (by kernel_rfl) (by kernel_rfl) (fun _ _ _ h => h) (by rfl) ?_ ?_
        rotate_left
        · (intro w; go_simp; try with_reducible rfl)
        simp only [List.setIfInBounds_toArray, List.set_cons_zero, List.set_cons_succ]
        refine reg_one 18 (m1 := (bitsA 22 524287)) rfl (by kernel_rfl) rfl (by kernel_rfl) ?_
        intro K hK
        go_simp
        refine (sum_one _ _ _ _ hp3).mono ?_
        rintro e wn ⟨rfl, hbn⟩
        clear hp3
        replace hW := hW.thenB hbn
        clear hbn
        refine hK _ _ ?_
        clear hK K
        rotate_left
        intro K hK
        go_simp
        have hp1 := PartsAt.one (ha.kept hW) 22
        try simp only [World.size_alloc, World.size_drew] at hp1
        replace hp0 := hp0.alloc (.cells #[.slice aa k ca] 22)
        replace hp2 := hp2.alloc (.cells #[.slice aa k ca] 22)
        replace hW := hW.more (.cells #[.slice aa k ca] 22)
        refine hK _ _ ?_
        clear hK K
        refine reg_two 2 17 (m1 := (bitsA 22 118655)) (m2 := (bitsA 22 249723)) rfl (by kernel_rfl) rfl rfl (by kernel_rfl) rfl (by kernel_rfl) ?_ ?_
        intro K hK
        go_simp
        refine (sum_one _ _ _ _ hp0).mono ?_
        rintro e wn ⟨rfl, hbn⟩
        clear hp0
        replace hp1 := hp1.below hbn
        replace hp2 := hp2.below hbn
        replace hW := hW.thenB hbn
        clear hbn
        refine hK _ _ ?_
        clear hK K
        refine reg_two 7 17 (m1 := (bitsA 22 118783)) (m2 := (bitsA 22 249727)) rfl (by kernel_rfl) rfl rfl (by kernel_rfl) rfl (by kernel_rfl) ?_ ?_
        intro K hK
        go_simp
        refine (sum_one _ _ _ _ hp1).mono ?_
        rintro e wn ⟨rfl, hbn⟩
        clear hp1
        replace hp2 := hp2.below hbn
        replace hW := hW.thenB hbn
        clear hbn
        refine hK _ _ ?_
        clear hK K
        refine reg_two 12 17 (m1 := (bitsA 22 122879)) (m2 := (bitsA 22 249855)) rfl (by kernel_rfl) rfl rfl (by kernel_rfl) rfl (by kernel_rfl) ?_ ?_
        intro K hK
        go_simp
        refine (sum_one _ _ _ _ hp2).mono ?_
        rintro e wn ⟨rfl, hbn⟩
        clear hp2
        replace hW := hW.thenB hbn
        clear hbn
        refine hK _ _ ?_
        clear hK K
        refine reg_take 13 (d := 63) (v := ?_) (listed' := (bitsA 22 131071)) rfl rfl (by kernel_rfl) (by kernel_rfl) (by kernel_rfl) (by kernel_rfl) (fun _ _ _ h => h) (by rfl) ?_ ?_
        rotate_left
        · (intro w; go_simp; try with_reducible rfl)
        simp only [List.setIfInBounds_toArray, List.set_cons_zero, List.set_cons_succ]
        refine reg_one 17 (m1 := (bitsA 22 262143)) rfl (by kernel_rfl) rfl (by kernel_rfl) ?_
        intro K hK
        go_simp
        have hp3 := PartsAt.one (hcc.kept hW) 22
        try simp only [World.size_alloc, World.size_drew] at hp3
        replace hW := hW.more (.cells #[.slice ac k cc] 22)
        refine hK _ _ ?_
        clear hK K
        refine reg_one 18 (m1 := (bitsA 22 524287)) rfl (by kernel_rfl) rfl (by kernel_rfl) ?_
        intro K hK
        go_simp
        refine (sum_one _ _ _ _ hp3).mono ?_
        rintro e wn ⟨rfl, hbn⟩
        clear hp3
        replace hW := hW.thenB hbn
        clear hbn
        refine hK _ _ ?_
        clear hK K
        rotate_left
        intro K hK
        go_simp
        have hp3 := PartsAt.one (hcc.kept hW) 22
        try simp only [World.size_alloc, World.size_drew] at hp3
        replace hp2 := hp2.alloc (.cells #[.slice ac k cc] 22)
        replace hW := hW.more (.cells #[.slice ac k cc] 22)
        refine hK _ _ ?_
        clear hK K
        refine reg_one 12 (m1 := (bitsA 22 253951)) rfl (by kernel_rfl) rfl (by kernel_rfl) ?_
        intro K hK
        go_simp
        refine (sum_one _ _ _ _ hp2).mono ?_
        rintro e wn ⟨rfl, hbn⟩
        clear hp2
        replace hp3 := hp3.below hbn
        replace hW := hW.thenB hbn
        clear hbn
        refine hK _ _ ?_
        clear hK K
        refine reg_take 13 (d := 63) (v := ?_) (listed' := (bitsA 22 262143)) rfl rfl (by kernel_rfl) (by kernel_rfl) (by kernel_rfl) (by kernel_rfl) (fun _ _ _ h => h) (by rfl) ?_ ?_
        rotate_left
        · (intro w; go_simp; try with_reducible rfl)
        simp only [List.setIfInBounds_toArray, List.set_cons_zero, List.set_cons_succ]
        refine reg_one 18 (m1 := (bitsA 22 524287)) rfl (by kernel_rfl) rfl (by kernel_rfl) ?_
        intro K hK
        go_simp
        refine (sum_one _ _ _ _ hp3).mono ?_
        rintro e wn ⟨rfl, hbn⟩
        clear hp3
        replace hW := hW.thenB hbn
        clear hbn
        refine hK _ _ ?_
        clear hK K
        rotate_left
        intro K hK
        go_simp
        have hp3 := PartsAt.one (hcc.kept hW) 22
        try simp only [World.size_alloc, World.size_drew] at hp3
        replace hp1 := hp1.alloc (.cells #[.slice ac k cc] 22)
        replace hp2 := hp2.alloc (.cells #[.slice ac k cc] 22)
        replace hW := hW.more (.cells #[.slice ac k cc] 22)
        refine hK _ _ ?_
        clear hK K
        refine reg_one 7 (m1 := (bitsA 22 249855)) rfl (by kernel_rfl) rfl (by kernel_rfl) ?_
        intro K hK
        go_simp
        refine (sum_one _ _ _ _ hp1).mono ?_
        rintro e wn ⟨rfl, hbn⟩
        clear hp1
        replace hp2 := hp2.below hbn
        replace hp3 := hp3.below hbn
        replace hW := hW.thenB hbn
        clear hbn
        refine hK _ _ ?_
        clear hK K
        refine reg_one 12 (m1 := (bitsA 22 253951)) rfl (by kernel_rfl) rfl (by kernel_rfl) ?_
        intro K hK
        go_simp
        refine (sum_one _ _ _ _ hp2).mono ?_
        rintro e wn ⟨rfl, hbn⟩
        clear hp2
        replace hp3 := hp3.below hbn
        replace hW := hW.thenB hbn
        clear hbn
        refine hK _ _ ?_
        clear hK K
        refine reg_take 13 (d := 63) (v := ?_) (listed' := (bitsA 22 262143)) rfl rfl (by kernel_rfl) (by kernel_rfl) (by kernel_rfl) (by kernel_rfl) (fun _ _ _ h => h) (by rfl) ?_ ?_
        rotate_left
        · (intro w; go_simp; try with_reducible rfl)
        simp only [List.setIfInBounds_toArray, List.set_cons_zero, List.set_cons_succ]
        refine reg_one 18 (m1 := (bitsA 22 524287)) rfl (by kernel_rfl) rfl (by kernel_rfl) ?_
        intro K hK
        go_simp
        refine (sum_one _ _ _ _ hp3).mono ?_
        rintro e wn ⟨rfl, hbn⟩
        clear hp3
        replace hW := hW.thenB hbn
        clear hbn
        refine hK _ _ ?_
        clear hK K
        rotate_left
        intro K hK
        go_simp
        have hp3 := PartsAt.one (hcc.kept hW) 22
        try simp only [World.size_alloc, World.size_drew] at hp3
        replace hp0 := hp0.alloc (.cells #[.slice ac k cc] 22)
        replace hp1 := hp1.alloc (.cells #[.slice ac k cc] 22)
        replace hp2 := hp2.alloc (.cells #[.slice ac k cc] 22)
        replace hW := hW.more (.cells #[.slice ac k cc] 22)
        refine hK _ _ ?_
        clear hK K
        refine reg_one 2 (m1 := (bitsA 22 249727)) rfl (by kernel_rfl) rfl (by kernel_rfl) ?_
        intro K hK
        go_simp
        refine (sum_one _ _ _ _ hp0).mono ?_
        rintro e wn ⟨rfl, hbn⟩
        clear hp0
        replace hp1 := hp1.below hbn
        replace hp2 := hp2.below hbn
        replace hp3 := hp3.below hbn
        replace hW := hW.thenB hbn
        clear hbn
        refine hK _ _ ?_
        clear hK K
        refine reg_one 7 (m1 := (bitsA 22 249855)) rfl (by kernel_rfl) rfl (by kernel_rfl) ?_
        intro K hK
        go_simp
        refine (sum_one _ _ _ _ hp1).mono ?_
        rintro e wn ⟨rfl, hbn⟩
        clear hp1
        replace hp2 := hp2.below hbn
        replace hp3 := hp3.below hbn
        replace hW := hW.thenB hbn
        clear hbn
        refine hK _ _ ?_
        clear hK K
        refine reg_one 12 (m1 := (bitsA 22 253951)) rfl (by kernel_rfl) rfl (by kernel_rfl) ?_
        intro K hK
        go_simp
        refine (sum_one _ _ _ _ hp2).mono ?_
        rintro e wn ⟨rfl, hbn⟩
        clear hp2
        replace hp3 := hp3.below hbn
        replace hW := hW.thenB hbn
        clear hbn
        refine hK _ _ ?_
        clear hK K
        refine reg_take 13 (d := 63) (v := ?_) (listed' := (bitsA 22 262143)) rfl rfl (by kernel_rfl) (by kernel_rfl) (by kernel_rfl) (by kernel_rfl) (fun _ _ _ h => h) (by rfl) ?_ ?_
        rotate_left
        · (intro w; go_simp; try with_reducible rfl)
        simp only [List.setIfInBounds_toArray, List.set_cons_zero, List.set_cons_succ]
        refine reg_one 18 (m1 := (bitsA 22 524287)) rfl (by kernel_rfl) rfl (by kernel_rfl) ?_
        intro K hK
        go_simp
        refine (sum_one _ _ _ _ hp3).mono ?_
        rintro e wn ⟨rfl, hbn⟩
        clear hp3
        replace hW := hW.thenB hbn
        clear hbn
        refine hK _ _ ?_
        clear hK K
        rotate_left
        intro K hK
        go_simp
        have hp3 := PartsAt.one (hcc.kept hW) 22
        try simp only [World.size_alloc, World.size_drew] at hp3
        replace hp0 := hp0.alloc (.cells #[.slice ac k cc] 22)
        replace hp2 := hp2.alloc (.cells #[.slice ac k cc] 22)
        replace hW := hW.more (.cells #[.slice ac k cc] 22)
        refine hK _ _ ?_
        clear hK K
        refine reg_two 2 6 (m1 := (bitsA 22 249663)) (m2 := (bitsA 22 249723)) rfl (by kernel_rfl) rfl rfl (by kernel_rfl) rfl (by kernel_rfl) ?_ ?_
        intro K hK
        go_simp
        refine (sum_one _ _ _ _ hp0).mono ?_
        rintro e wn ⟨rfl, hbn⟩
        clear hp0
        replace hp2 := hp2.below hbn
        replace hp3 := hp3.below hbn
        replace hW := hW.thenB hbn
        clear hbn
        refine hK _ _ ?_
        clear hK K
        refine reg_one 6 (m1 := (bitsA 22 249727)) rfl (by kernel_rfl) rfl (by kernel_rfl) ?_
        intro K hK
        go_simp
        have hp1 := PartsAt.one (ha.kept hW) 22
        try simp only [World.size_alloc, World.size_drew] at hp1
        replace hp2 := hp2.alloc (.cells #[.slice aa k ca] 22)
        replace hp3 := hp3.alloc (.cells #[.slice aa k ca] 22)
        replace hW := hW.more (.cells #[.slice aa k ca] 22)
        refine hK _ _ ?_
        clear hK K
        refine reg_one 7 (m1 := (bitsA 22 249855)) rfl (by kernel_rfl) rfl (by kernel_rfl) ?_
        intro K hK
        go_simp
        refine (sum_one _ _ _ _ hp1).mono ?_
        rintro e wn ⟨rfl, hbn⟩
        clear hp1
        replace hp2 := hp2.below hbn
        replace hp3 := hp3.below hbn
        replace hW := hW.thenB hbn
        clear hbn
        refine hK _ _ ?_
        clear hK K
        refine reg_one 12 (m1 := (bitsA 22 253951)) rfl (by kernel_rfl) rfl (by kernel_rfl) ?_
        intro K hK
        go_simp
        refine (sum_one _ _ _ _ hp2).mono ?_
        rintro e wn ⟨rfl, hbn⟩
        clear hp2
        replace hp3 := hp3.below hbn
        replace hW := hW.thenB hbn
        clear hbn
        refine hK _ _ ?_
        clear hK K
        refine reg_take 13 (d := 63) (v := ?_) (listed' := (bitsA 22 262143)) rfl rfl (by kernel_rfl) (by kernel_rfl) (by kernel_rfl) (by kernel_rfl) (fun _ _ _ h => h) (by rfl) ?_ ?_
        rotate_left
        · (intro w; go_simp; try with_reducible rfl)
        simp only [List.setIfInBounds_toArray, List.set_cons_zero, List.set_cons_succ]
        refine reg_one 18 (m1 := (bitsA 22 524287)) rfl (by kernel_rfl) rfl (by kernel_rfl) ?_
        intro K hK
        go_simp
        refine (sum_one _ _ _ _ hp3).mono ?_
        rintro e wn ⟨rfl, hbn⟩
        clear hp3
        replace hW := hW.thenB hbn
        clear hbn
        refine hK _ _ ?_
        clear hK K
        rotate_left
        intro K hK
        go_simp
        have hp1 := PartsAt.one (ha.kept hW) 22
        try simp only [World.size_alloc, World.size_drew] at hp1
        replace hp0 := hp0.alloc (.cells #[.slice aa k ca] 22)
        replace hp2 := hp2.alloc (.cells #[.slice aa k ca] 22)
        replace hp3 := hp3.alloc (.cells #[.slice aa k ca] 22)
        replace hW := hW.more (.cells #[.slice aa k ca] 22)
        refine hK _ _ ?_
        clear hK K
        refine reg_one 2 (m1 := (bitsA 22 249727)) rfl (by kernel_rfl) rfl (by kernel_rfl) ?_
        intro K hK
        go_simp
        refine (sum_one _ _ _ _ hp0).mono ?_
        rintro e wn ⟨rfl, hbn⟩
        clear hp0
        replace hp1 := hp1.below hbn
        replace hp2 := hp2.below hbn
        replace hp3 := hp3.below hbn
        replace hW := hW.thenB hbn
        clear hbn
        refine hK _ _ ?_
        clear hK K
        refine reg_one 7 (m1 := (bitsA 22 249855)) rfl (by kernel_rfl) rfl (by kernel_rfl) ?_
        intro K hK
        go_simp
        refine (sum_one _ _ _ _ hp1).mono ?_
        rintro e wn ⟨rfl, hbn⟩
        clear hp1
        replace hp2 := hp2.below hbn
        replace hp3 := hp3.below hbn
        replace hW := hW.thenB hbn
        clear hbn
        refine hK _ _ ?_
        clear hK K
        refine reg_one 12 (m1 := (bitsA 22 253951)) rfl (by kernel_rfl) rfl (by kernel_rfl) ?_
        intro K hK
        go_simp
        refine (sum_one _ _ _ _ hp2).mono ?_
        rintro e wn ⟨rfl, hbn⟩
        clear hp2
        replace hp3 := hp3.below hbn
        replace hW := hW.thenB hbn
        clear hbn
        refine hK _ _ ?_
        clear hK K
        refine reg_take 13 (d := 63) (v := ?_) (listed' := (bitsA 22 262143)) rfl rfl (by kernel_rfl) (by kernel_rfl) (by kernel_rfl) (by kernel_rfl) (fun _ _ _ h => h) (by rfl) ?_ ?_
        rotate_left
        · (intro w; go_simp; try with_reducible rfl)
        simp only [List.setIfInBounds_toArray, List.set_cons_zero, List.set_cons_succ]
        refine reg_one 18 (m1 := (bitsA 22 524287)) rfl (by kernel_rfl) rfl (by kernel_rfl) ?_
        intro K hK
        go_simp
        refine (sum_one _ _ _ _ hp3).mono ?_
        rintro e wn ⟨rfl, hbn⟩
        clear hp3
        replace hW := hW.thenB hbn
        clear hbn
        refine hK _ _ ?_
        clear hK K
        rotate_left
        intro K hK
        go_simp
        have hp3 := PartsAt.one (hcc.kept hW) 22
        try simp only [World.size_alloc, World.size_drew] at hp3
        replace hp0 := hp0.alloc (.cells #[.slice ac k cc] 22)
        replace hW := hW.more (.cells #[.slice ac k cc] 22)
        refine hK _ _ ?_
        clear hK K
        refine reg_three 2 6 11 (m1 := (bitsA 22 247615)) (m2 := (bitsA 22 247675)) (m3 := (bitsA 22 249659)) rfl (by kernel_rfl) rfl rfl (by kernel_rfl) rfl rfl (by kernel_rfl) rfl (by kernel_rfl) ?_ ?_ ?_
        intro K hK
        go_simp
        refine (sum_one _ _ _ _ hp0).mono ?_
        rintro e wn ⟨rfl, hbn⟩
        clear hp0
        replace hp3 := hp3.below hbn
        replace hW := hW.thenB hbn
        clear hbn
        refine hK _ _ ?_
        clear hK K
        refine reg_two 6 11 (m1 := (bitsA 22 247679)) (m2 := (bitsA 22 249663)) rfl (by kernel_rfl) rfl rfl (by kernel_rfl) rfl (by kernel_rfl) ?_ ?_
        intro K hK
        go_simp
        have hp1 := PartsAt.one (ha.kept hW) 22
        try simp only [World.size_alloc, World.size_drew] at hp1
        replace hp3 := hp3.alloc (.cells #[.slice aa k ca] 22)
        replace hW := hW.more (.cells #[.slice aa k ca] 22)
        refine hK _ _ ?_
        clear hK K
        refine reg_two 7 11 (m1 := (bitsA 22 247807)) (m2 := (bitsA 22 249727)) rfl (by kernel_rfl) rfl rfl (by kernel_rfl) rfl (by kernel_rfl) ?_ ?_
        intro K hK
        go_simp
        refine (sum_one _ _ _ _ hp1).mono ?_
        rintro e wn ⟨rfl, hbn⟩
        clear hp1
        replace hp3 := hp3.below hbn
        replace hW := hW.thenB hbn
        clear hbn
        refine hK _ _ ?_
        clear hK K
        refine reg_one 11 (m1 := (bitsA 22 249855)) rfl (by kernel_rfl) rfl (by kernel_rfl) ?_
        intro K hK
        go_simp
        have hp2 := PartsAt.one (hbb.kept hW) 22
        try simp only [World.size_alloc, World.size_drew] at hp2
        replace hp3 := hp3.alloc (.cells #[.slice ab k cb] 22)
        replace hW := hW.more (.cells #[.slice ab k cb] 22)
        refine hK _ _ ?_
        clear hK K
        refine reg_one 12 (m1 := (bitsA 22 253951)) rfl (by kernel_rfl) rfl (by kernel_rfl) ?_
        intro K hK
        go_simp
        refine (sum_one _ _ _ _ hp2).mono ?_
        rintro e wn ⟨rfl, hbn⟩
        clear hp2
        replace hp3 := hp3.below hbn
        replace hW := hW.thenB hbn
        clear hbn
        refine hK _ _ ?_
        clear hK K
        refine reg_take 13 (d := 63) (v := ?_) (listed' := (bitsA 22 262143)) rfl rfl (by kernel_rfl) (by kernel_rfl) (by kernel_rfl) (by kernel_rfl) (fun _ _ _ h => h) (by rfl) ?_ ?_
        rotate_left
        · (intro w; go_simp; try with_reducible rfl)
        simp only [List.setIfInBounds_toArray, List.set_cons_zero, List.set_cons_succ]
        refine reg_one 18 (m1 := (bitsA 22 524287)) rfl (by kernel_rfl) rfl (by kernel_rfl) ?_
        intro K hK
        go_simp
        refine (sum_one _ _ _ _ hp3).mono ?_
        rintro e wn ⟨rfl, hbn⟩
        clear hp3
        replace hW := hW.thenB hbn
        clear hbn
        refine hK _ _ ?_
        clear hK K
        rotate_left
        intro K hK
        go_simp
        have hp2 := PartsAt.one (hbb.kept hW) 22
        try simp only [World.size_alloc, World.size_drew] at hp2
        replace hp1 := hp1.alloc (.cells #[.slice ab k cb] 22)
        replace hp3 := hp3.alloc (.cells #[.slice ab k cb] 22)
        replace hW := hW.more (.cells #[.slice ab k cb] 22)
        refine hK _ _ ?_
        clear hK K
        refine reg_one 7 (m1 := (bitsA 22 249855)) rfl (by kernel_rfl) rfl (by kernel_rfl) ?_
        intro K hK
        go_simp
        refine (sum_one _ _ _ _ hp1).mono ?_
        rintro e wn ⟨rfl, hbn⟩
        clear hp1
        replace hp2 := hp2.below hbn
        replace hp3 := hp3.below hbn
        replace hW := hW.thenB hbn
        clear hbn
        refine hK _ _ ?_
        clear hK K
        refine reg_one 12 (m1 := (bitsA 22 253951)) rfl (by kernel_rfl) rfl (by kernel_rfl) ?_
        intro K hK
        go_simp
        refine (sum_one _ _ _ _ hp2).mono ?_
        rintro e wn ⟨rfl, hbn⟩
        clear hp2
        replace hp3 := hp3.below hbn
        replace hW := hW.thenB hbn
        clear hbn
        refine hK _ _ ?_
        clear hK K
        refine reg_take 13 (d := 63) (v := ?_) (listed' := (bitsA 22 262143)) rfl rfl (by kernel_rfl) (by kernel_rfl) (by kernel_rfl) (by kernel_rfl) (fun _ _ _ h => h) (by rfl) ?_ ?_
        rotate_left
        · (intro w; go_simp; try with_reducible rfl)
        simp only [List.setIfInBounds_toArray, List.set_cons_zero, List.set_cons_succ]
        refine reg_one 18 (m1 := (bitsA 22 524287)) rfl (by kernel_rfl) rfl (by kernel_rfl) ?_
        intro K hK
        go_simp
        refine (sum_one _ _ _ _ hp3).mono ?_
        rintro e wn ⟨rfl, hbn⟩
        clear hp3
        replace hW := hW.thenB hbn
        clear hbn
        refine hK _ _ ?_
        clear hK K
        rotate_left
        intro K hK
        go_simp
        have hp2 := PartsAt.one (hbb.kept hW) 22
        try simp only [World.size_alloc, World.size_drew] at hp2
        replace hp3 := hp3.alloc (.cells #[.slice ab k cb] 22)
        replace hW := hW.more (.cells #[.slice ab k cb] 22)
        refine hK _ _ ?_
        clear hK K
        refine reg_one 6 (m1 := (bitsA 22 249727)) rfl (by kernel_rfl) rfl (by kernel_rfl) ?_
        intro K hK
        go_simp
        have hp1 := PartsAt.one (ha.kept hW) 22
        try simp only [World.size_alloc, World.size_drew] at hp1
        replace hp2 := hp2.alloc (.cells #[.slice aa k ca] 22)
        replace hp3 := hp3.alloc (.cells #[.slice aa k ca] 22)
        replace hW := hW.more (.cells #[.slice aa k ca] 22)
        refine hK _ _ ?_
        clear hK K
        refine reg_one 7 (m1 := (bitsA 22 249855)) rfl (by kernel_rfl) rfl (by kernel_rfl) ?_
        intro K hK
        go_simp
        refine (sum_one _ _ _ _ hp1).mono ?_
        rintro e wn ⟨rfl, hbn⟩
        clear hp1
        replace hp2 := hp2.below hbn
        replace hp3 := hp3.below hbn
        replace hW := hW.thenB hbn
        clear hbn
        refine hK _ _ ?_
        clear hK K
        refine reg_one 12 (m1 := (bitsA 22 253951)) rfl (by kernel_rfl) rfl (by kernel_rfl) ?_
        intro K hK
        go_simp
        refine (sum_one _ _ _ _ hp2).mono ?_
        rintro e wn ⟨rfl, hbn⟩
        clear hp2
        replace hp3 := hp3.below hbn
        replace hW := hW.thenB hbn
        clear hbn
        refine hK _ _ ?_
        clear hK K
        refine reg_take 13 (d := 63) (v := ?_) (listed' := (bitsA 22 262143)) rfl rfl (by kernel_rfl) (by kernel_rfl) (by kernel_rfl) (by kernel_rfl) (fun _ _ _ h => h) (by rfl) ?_ ?_
        rotate_left
        · (intro w; go_simp; try with_reducible rfl)
        simp only [List.setIfInBounds_toArray, List.set_cons_zero, List.set_cons_succ]
        refine reg_one 18 (m1 := (bitsA 22 524287)) rfl (by kernel_rfl) rfl (by kernel_rfl) ?_
        intro K hK
        go_simp
        refine (sum_one _ _ _ _ hp3).mono ?_
        rintro e wn ⟨rfl, hbn⟩
        clear hp3
        replace hW := hW.thenB hbn
        clear hbn
        refine hK _ _ ?_
        clear hK K
        rotate_left
        intro K hK
        go_simp
        have hp1 := PartsAt.one (ha.kept hW) 22
        try simp only [World.size_alloc, World.size_drew] at hp1
        replace hp0 := hp0.alloc (.cells #[.slice aa k ca] 22)
        replace hp3 := hp3.alloc (.cells #[.slice aa k ca] 22)
        replace hW := hW.more (.cells #[.slice aa k ca] 22)
        refine hK _ _ ?_
        clear hK K
        refine reg_two 2 11 (m1 := (bitsA 22 247679)) (m2 := (bitsA 22 249723)) rfl (by kernel_rfl) rfl rfl (by kernel_rfl) rfl (by kernel_rfl) ?_ ?_
        intro K hK
        go_simp
        refine (sum_one _ _ _ _ hp0).mono ?_
        rintro e wn ⟨rfl, hbn⟩
        clear hp0
        replace hp1 := hp1.below hbn
        replace hp3 := hp3.below hbn
        replace hW := hW.thenB hbn
        clear hbn
        refine hK _ _ ?_
        clear hK K
        refine reg_two 7 11 (m1 := (bitsA 22 247807)) (m2 := (bitsA 22 249727)) rfl (by kernel_rfl) rfl rfl (by kernel_rfl) rfl (by kernel_rfl) ?_ ?_
        intro K hK
        go_simp
        refine (sum_one _ _ _ _ hp1).mono ?_
        rintro e wn ⟨rfl, hbn⟩
        clear hp1
        replace hp3 := hp3.below hbn
        replace hW := hW.thenB hbn
        clear hbn
        refine hK _ _ ?_
        clear hK K
        refine reg_one 11 (m1 := (bitsA 22 249855)) rfl (by kernel_rfl) rfl (by kernel_rfl) ?_
        intro K hK
        go_simp
        have hp2 := PartsAt.one (hbb.kept hW) 22
        try simp only [World.size_alloc, World.size_drew] at hp2
        replace hp3 := hp3.alloc (.cells #[.slice ab k cb] 22)
        replace hW := hW.more (.cells #[.slice ab k cb] 22)
        refine hK _ _ ?_
        clear hK K
        refine reg_one 12 (m1 := (bitsA 22 253951)) rfl (by kernel_rfl) rfl (by kernel_rfl) ?_
        intro K hK
        go_simp
        refine (sum_one _ _ _ _ hp2).mono ?_
        rintro e wn ⟨rfl, hbn⟩
        clear hp2
        replace hp3 := hp3.below hbn
        replace hW := hW.thenB hbn
        clear hbn
        refine hK _ _ ?_
        clear hK K
        refine reg_take 13 (d := 63) (v := ?_) (listed' := (bitsA 22 262143)) rfl rfl (by kernel_rfl) (by kernel_rfl) (by kernel_rfl) (by kernel_rfl) (fun _ _ _ h => h) (by rfl) ?_ ?_
        rotate_left
        · (intro w; go_simp; try with_reducible rfl)
        simp only [List.setIfInBounds_toArray, List.set_cons_zero, List.set_cons_succ]
        refine reg_one 18 (m1 := (bitsA 22 524287)) rfl (by kernel_rfl) rfl (by kernel_rfl) ?_
        intro K hK
        go_simp
        refine (sum_one _ _ _ _ hp3).mono ?_
        rintro e wn ⟨rfl, hbn⟩
        clear hp3
        replace hW := hW.thenB hbn
        clear hbn
        refine hK _ _ ?_
        clear hK K
        rotate_left
        intro K hK
        go_simp
        have hp2 := PartsAt.one (hbb.kept hW) 22
        try simp only [World.size_alloc, World.size_drew] at hp2
        replace hp1 := hp1.alloc (.cells #[.slice ab k cb] 22)
        replace hp3 := hp3.alloc (.cells #[.slice ab k cb] 22)
        replace hW := hW.more (.cells #[.slice ab k cb] 22)
        refine hK _ _ ?_
        clear hK K
        refine reg_one 7 (m1 := (bitsA 22 249855)) rfl (by kernel_rfl) rfl (by kernel_rfl) ?_
        intro K hK
        go_simp
        refine (sum_one _ _ _ _ hp1).mono ?_
        rintro e wn ⟨rfl, hbn⟩
        clear hp1
        replace hp2 := hp2.below hbn
        replace hp3 := hp3.below hbn
        replace hW := hW.thenB hbn
        clear hbn
        refine hK _ _ ?_
        clear hK K
        refine reg_one 12 (m1 := (bitsA 22 253951)) rfl (by kernel_rfl) rfl (by kernel_rfl) ?_
        intro K hK
        go_simp
        refine (sum_one _ _ _ _ hp2).mono ?_
        rintro e wn ⟨rfl, hbn⟩
        clear hp2
        replace hp3 := hp3.below hbn
        replace hW := hW.thenB hbn
        clear hbn
        refine hK _ _ ?_
        clear hK K
        refine reg_take 13 (d := 63) (v := ?_) (listed' := (bitsA 22 262143)) rfl rfl (by kernel_rfl) (by kernel_rfl) (by kernel_rfl) (by kernel_rfl) (fun _ _ _ h => h) (by rfl) ?_ ?_
        rotate_left
        · (intro w; go_simp; try with_reducible rfl)
        simp only [List.setIfInBounds_toArray, List.set_cons_zero, List.set_cons_succ]
        refine reg_one 18 (m1 := (bitsA 22 524287)) rfl (by kernel_rfl) rfl (by kernel_rfl) ?_
        intro K hK
        go_simp
        refine (sum_one _ _ _ _ hp3).mono ?_
        rintro e wn ⟨rfl, hbn⟩
        clear hp3
        replace hW := hW.thenB hbn
        clear hbn
        refine hK _ _ ?_
        clear hK K
        rotate_left
        intro K hK
        go_simp
        have hp2 := PartsAt.one (hbb.kept hW) 22
        try simp only [World.size_alloc, World.size_drew] at hp2
        replace hp0 := hp0.alloc (.cells #[.slice ab k cb] 22)
        replace hp1 := hp1.alloc (.cells #[.slice ab k cb] 22)
        replace hp3 := hp3.alloc (.cells #[.slice ab k cb] 22)
        replace hW := hW.more (.cells #[.slice ab k cb] 22)
        refine hK _ _ ?_
        clear hK K
        refine reg_one 2 (m1 := (bitsA 22 249727)) rfl (by kernel_rfl) rfl (by kernel_rfl) ?_
        intro K hK
        go_simp
        refine (sum_one _ _ _ _ hp0).mono ?_
        rintro e wn ⟨rfl, hbn⟩
        clear hp0
        replace hp1 := hp1.below hbn
        replace hp2 := hp2.below hbn
        replace hp3 := hp3.below hbn
        replace hW := hW.thenB hbn
        clear hbn
        refine hK _ _ ?_
        clear hK K
        refine reg_one 7 (m1 := (bitsA 22 249855)) rfl (by kernel_rfl) rfl (by kernel_rfl) ?_
        intro K hK
        go_simp
        refine (sum_one _ _ _ _ hp1).mono ?_
        rintro e wn ⟨rfl, hbn⟩
        clear hp1
        replace hp2 := hp2.below hbn
        replace hp3 := hp3.below hbn
        replace hW := hW.thenB hbn
        clear hbn
        refine hK _ _ ?_
        clear hK K
        refine reg_one 12 (m1 := (bitsA 22 253951)) rfl (by kernel_rfl) rfl (by kernel_rfl) ?_
        intro K hK
        go_simp
        refine (sum_one _ _ _ _ hp2).mono ?_
        rintro e wn ⟨rfl, hbn⟩
        clear hp2
        replace hp3 := hp3.below hbn
        replace hW := hW.thenB hbn
        clear hbn
        refine hK _ _ ?_
        clear hK K
        refine reg_take 13 (d := 63) (v := ?_) (listed' := (bitsA 22 262143)) rfl rfl (by kernel_rfl) (by kernel_rfl) (by kernel_rfl) (by kernel_rfl) (fun _ _ _ h => h) (by rfl) ?_ ?_
        rotate_left
        · (intro w; go_simp; try with_reducible rfl)
        simp only [List.setIfInBounds_toArray, List.set_cons_zero, List.set_cons_succ]
        refine reg_one 18 (m1 := (bitsA 22 524287)) rfl (by kernel_rfl) rfl (by kernel_rfl) ?_
        intro K hK
        go_simp
        refine (sum_one _ _ _ _ hp3).mono ?_
        rintro e wn ⟨rfl, hbn⟩
        clear hp3
        replace hW := hW.thenB hbn
        clear hbn
        refine hK _ _ ?_
        clear hK K
        rotate_left
        intro K hK
        go_simp
        have hp2 := PartsAt.one (hbb.kept hW) 22
        try simp only [World.size_alloc, World.size_drew] at hp2
        replace hp0 := hp0.alloc (.cells #[.slice ab k cb] 22)
        replace hp3 := hp3.alloc (.cells #[.slice ab k cb] 22)
        replace hW := hW.more (.cells #[.slice ab k cb] 22)
        refine hK _ _ ?_
        clear hK K
        refine reg_two 2 6 (m1 := (bitsA 22 249663)) (m2 := (bitsA 22 249723)) rfl (by kernel_rfl) rfl rfl (by kernel_rfl) rfl (by kernel_rfl) ?_ ?_
        intro K hK
        go_simp
        refine (sum_one _ _ _ _ hp0).mono ?_
        rintro e wn ⟨rfl, hbn⟩
        clear hp0
        replace hp2 := hp2.below hbn
        replace hp3 := hp3.below hbn
        replace hW := hW.thenB hbn
        clear hbn
        refine hK _ _ ?_
        clear hK K
        refine reg_one 6 (m1 := (bitsA 22 249727)) rfl (by kernel_rfl) rfl (by kernel_rfl) ?_
        intro K hK
        go_simp
        have hp1 := PartsAt.one (ha.kept hW) 22
        try simp only [World.size_alloc, World.size_drew] at hp1
        replace hp2 := hp2.alloc (.cells #[.slice aa k ca] 22)
        replace hp3 := hp3.alloc (.cells #[.slice aa k ca] 22)
        replace hW := hW.more (.cells #[.slice aa k ca] 22)
        refine hK _ _ ?_
        clear hK K
        refine reg_one 7 (m1 := (bitsA 22 249855)) rfl (by kernel_rfl) rfl (by kernel_rfl) ?_
        intro K hK
        go_simp
        refine (sum_one _ _ _ _ hp1).mono ?_
        rintro e wn ⟨rfl, hbn⟩
        clear hp1
        replace hp2 := hp2.below hbn
        replace hp3 := hp3.below hbn
        replace hW := hW.thenB hbn
        clear hbn
        refine hK _ _ ?_
        clear hK K
        refine reg_one 12 (m1 := (bitsA 22 253951)) rfl (by kernel_rfl) rfl (by kernel_rfl) ?_
        intro K hK
        go_simp
        refine (sum_one _ _ _ _ hp2).mono ?_
        rintro e wn ⟨rfl, hbn⟩
        clear hp2
        replace hp3 := hp3.below hbn
        replace hW := hW.thenB hbn
        clear hbn
        refine hK _ _ ?_
        clear hK K
        refine reg_take 13 (d := 63) (v := ?_) (listed' := (bitsA 22 262143)) rfl rfl (by kernel_rfl) (by kernel_rfl) (by kernel_rfl) (by kernel_rfl) (fun _ _ _ h => h) (by rfl) ?_ ?_
        rotate_left
        · (intro w; go_simp; try with_reducible rfl)
        simp only [List.setIfInBounds_toArray, List.set_cons_zero, List.set_cons_succ]
        refine reg_one 18 (m1 := (bitsA 22 524287)) rfl (by kernel_rfl) rfl (by kernel_rfl) ?_
        intro K hK
        go_simp
        refine (sum_one _ _ _ _ hp3).mono ?_
        rintro e wn ⟨rfl, hbn⟩
        clear hp3
        replace hW := hW.thenB hbn
        clear hbn
        refine hK _ _ ?_
        clear hK K
        rotate_left
        intro K hK
        go_simp
        have hp1 := PartsAt.one (ha.kept hW) 22
        try simp only [World.size_alloc, World.size_drew] at hp1
        replace hp0 := hp0.alloc (.cells #[.slice aa k ca] 22)
        replace hp2 := hp2.alloc (.cells #[.slice aa k ca] 22)
        replace hp3 := hp3.alloc (.cells #[.slice aa k ca] 22)
        replace hW := hW.more (.cells #[.slice aa k ca] 22)
        refine hK _ _ ?_
        clear hK K
        refine reg_one 2 (m1 := (bitsA 22 249727)) rfl (by kernel_rfl) rfl (by kernel_rfl) ?_
        intro K hK
        go_simp
        refine (sum_one _ _ _ _ hp0).mono ?_
        rintro e wn ⟨rfl, hbn⟩
        clear hp0
        replace hp1 := hp1.below hbn
        replace hp2 := hp2.below hbn
        replace hp3 := hp3.below hbn
        replace hW := hW.thenB hbn
        clear hbn
        refine hK _ _ ?_
        clear hK K
        refine reg_one 7 (m1 := (bitsA 22 249855)) rfl (by kernel_rfl) rfl (by kernel_rfl) ?_
        intro K hK
        go_simp
        refine (sum_one _ _ _ _ hp1).mono ?_
        rintro e wn ⟨rfl, hbn⟩
        clear hp1
        replace hp2 := hp2.below hbn
        replace hp3 := hp3.below hbn
        replace hW := hW.thenB hbn
        clear hbn
        refine hK _ _ ?_
        clear hK K
        refine reg_one 12 (m1 := (bitsA 22 253951)) rfl (by kernel_rfl) rfl (by kernel_rfl) ?_
        intro K hK
        go_simp
        refine (sum_one _ _ _ _ hp2).mono ?_
        rintro e wn ⟨rfl, hbn⟩
        clear hp2
        replace hp3 := hp3.below hbn
        replace hW := hW.thenB hbn
        clear hbn
        refine hK _ _ ?_
        clear hK K
        refine reg_take 13 (d := 63) (v := ?_) (listed' := (bitsA 22 262143)) rfl rfl (by kernel_rfl) (by kernel_rfl) (by kernel_rfl) (by kernel_rfl) (fun _ _ _ h => h) (by rfl) ?_ ?_
        rotate_left
        · (intro w; go_simp; try with_reducible rfl)
        simp only [List.setIfInBounds_toArray, List.set_cons_zero, List.set_cons_succ]
        refine reg_one 18 (m1 := (bitsA 22 524287)) rfl (by kernel_rfl) rfl (by kernel_rfl) ?_
        intro K hK
        go_simp
        refine (sum_one _ _ _ _ hp3).mono ?_
        rintro e wn ⟨rfl, hbn⟩
        clear hp3
        replace hW := hW.thenB hbn
        clear hbn
        refine hK _ _ ?_
        clear hK K
        rotate_left
        intro K hK
        go_simp
        have hp1 := PartsAt.one (ha.kept hW) 22
        try simp only [World.size_alloc, World.size_drew] at hp1
        replace hW := hW.more (.cells #[.slice aa k ca] 22)
        refine hK _ _ ?_
        clear hK K
        refine reg_three 1 11 17 (m1 := (bitsA 22 116603)) (m2 := (bitsA 22 118649)) (m3 := (bitsA 22 247673)) rfl (by kernel_rfl) rfl rfl (by kernel_rfl) rfl rfl (by kernel_rfl) rfl (by kernel_rfl) ?_ ?_ ?_
        intro K hK
        go_simp
        have hp0 := PartsAt.one (hm.kept hW) 22
        try simp only [World.size_alloc, World.size_drew] at hp0
        replace hp1 := hp1.alloc (.cells #[.slice am k cm] 22)
        replace hW := hW.more (.cells #[.slice am k cm] 22)
        refine hK _ _ ?_
        clear hK K
        refine reg_three 2 11 17 (m1 := (bitsA 22 116607)) (m2 := (bitsA 22 118651)) (m3 := (bitsA 22 247675)) rfl (by kernel_rfl) rfl rfl (by kernel_rfl) rfl rfl (by kernel_rfl) rfl (by kernel_rfl) ?_ ?_ ?_
        intro K hK
        go_simp
        refine (sum_one _ _ _ _ hp0).mono ?_
        rintro e wn ⟨rfl, hbn⟩
        clear hp0
        replace hp1 := hp1.below hbn
        replace hW := hW.thenB hbn
        clear hbn
        refine hK _ _ ?_
        clear hK K
        refine reg_three 7 11 17 (m1 := (bitsA 22 116735)) (m2 := (bitsA 22 118655)) (m3 := (bitsA 22 247679)) rfl (by kernel_rfl) rfl rfl (by kernel_rfl) rfl rfl (by kernel_rfl) rfl (by kernel_rfl) ?_ ?_ ?_
        intro K hK
        go_simp
        refine (sum_one _ _ _ _ hp1).mono ?_
        rintro e wn ⟨rfl, hbn⟩
        clear hp1
        replace hW := hW.thenB hbn
        clear hbn
        refine hK _ _ ?_
        clear hK K
        refine reg_two 11 17 (m1 := (bitsA 22 118783)) (m2 := (bitsA 22 247807)) rfl (by kernel_rfl) rfl rfl (by kernel_rfl) rfl (by kernel_rfl) ?_ ?_
        intro K hK
        go_simp
        have hp2 := PartsAt.one (hbb.kept hW) 22
        try simp only [World.size_alloc, World.size_drew] at hp2
        replace hW := hW.more (.cells #[.slice ab k cb] 22)
        refine hK _ _ ?_
        clear hK K
        refine reg_two 12 17 (m1 := (bitsA 22 122879)) (m2 := (bitsA 22 249855)) rfl (by kernel_rfl) rfl rfl (by kernel_rfl) rfl (by kernel_rfl) ?_ ?_
        intro K hK
        go_simp
        refine (sum_one _ _ _ _ hp2).mono ?_
        rintro e wn ⟨rfl, hbn⟩
        clear hp2
        replace hW := hW.thenB hbn
        clear hbn
        refine hK _ _ ?_
        clear hK K
        refine reg_take 13 (d := 63) (v := ?_) (listed' := (bitsA 22 131071)) rfl rfl (by kernel_rfl) (by kernel_rfl) (by kernel_rfl) (by kernel_rfl) (fun _ _ _ h => h) (by rfl) ?_ ?_
        rotate_left
        · (intro w; go_simp; try with_reducible rfl)
        simp only [List.setIfInBounds_toArray, List.set_cons_zero, List.set_cons_succ]
        refine reg_one 17 (m1 := (bitsA 22 262143)) rfl (by kernel_rfl) rfl (by kernel_rfl) ?_
        intro K hK
        go_simp
        have hp3 := PartsAt.one (hcc.kept hW) 22
        try simp only [World.size_alloc, World.size_drew] at hp3
        replace hW := hW.more (.cells #[.slice ac k cc] 22)
        refine hK _ _ ?_
        clear hK K
        refine reg_one 18 (m1 := (bitsA 22 524287)) rfl (by kernel_rfl) rfl (by kernel_rfl) ?_
        intro K hK
        go_simp
        refine (sum_one _ _ _ _ hp3).mono ?_
        rintro e wn ⟨rfl, hbn⟩
        clear hp3
        replace hW := hW.thenB hbn
        clear hbn
        refine hK _ _ ?_
        clear hK K
        rotate_left
        intro K hK
        go_simp
        have hp3 := PartsAt.one (hcc.kept hW) 22
        try simp only [World.size_alloc, World.size_drew] at hp3
        replace hp2 := hp2.alloc (.cells #[.slice ac k cc] 22)
        replace hW := hW.more (.cells #[.slice ac k cc] 22)
        refine hK _ _ ?_
        clear hK K
        refine reg_one 12 (m1 := (bitsA 22 253951)) rfl (by kernel_rfl) rfl (by kernel_rfl) ?_
        intro K hK
        go_simp
        refine (sum_one _ _ _ _ hp2).mono ?_
        rintro e wn ⟨rfl, hbn⟩
        clear hp2
        replace hp3 := hp3.below hbn
        replace hW := hW.thenB hbn
        clear hbn
        refine hK _ _ ?_
        clear hK K
        refine reg_take 13 (d := 63) (v := ?_) (listed' := (bitsA 22 262143)) rfl rfl (by kernel_rfl) (by kernel_rfl) (by kernel_rfl) (by kernel_rfl) (fun _ _ _ h => h) (by rfl) ?_ ?_
        rotate_left
        · (intro w; go_simp; try with_reducible rfl)
        simp only [List.setIfInBounds_toArray, List.set_cons_zero, List.set_cons_succ]
        refine reg_one 18 (m1 := (bitsA 22 524287)) rfl (by kernel_rfl) rfl (by kernel_rfl) ?_
        intro K hK
        go_simp
        refine (sum_one _ _ _ _ hp3).mono ?_
        rintro e wn ⟨rfl, hbn⟩
        clear hp3
        replace hW := hW.thenB hbn
        clear hbn
        refine hK _ _ ?_
        clear hK K
        rotate_left
        intro K hK
        go_simp
        have hp3 := PartsAt.one (hcc.kept hW) 22
        try simp only [World.size_alloc, World.size_drew] at hp3
        replace hW := hW.more (.cells #[.slice ac k cc] 22)
        refine hK _ _ ?_
        clear hK K
        refine reg_one 11 (m1 := (bitsA 22 249855)) rfl (by kernel_rfl) rfl (by kernel_rfl) ?_
        intro K hK
        go_simp
        have hp2 := PartsAt.one (hbb.kept hW) 22
        try simp only [World.size_alloc, World.size_drew] at hp2
        replace hp3 := hp3.alloc (.cells #[.slice ab k cb] 22)
        replace hW := hW.more (.cells #[.slice ab k cb] 22)
        refine hK _ _ ?_
        clear hK K
        refine reg_one 12 (m1 := (bitsA 22 253951)) rfl (by kernel_rfl) rfl (by kernel_rfl) ?_
        intro K hK
        go_simp
        refine (sum_one _ _ _ _ hp2).mono ?_
        rintro e wn ⟨rfl, hbn⟩
        clear hp2
        replace hp3 := hp3.below hbn
        replace hW := hW.thenB hbn
        clear hbn
        refine hK _ _ ?_
        clear hK K
        refine reg_take 13 (d := 63) (v := ?_) (listed' := (bitsA 22 262143)) rfl rfl (by kernel_rfl) (by kernel_rfl) (by kernel_rfl) (by kernel_rfl) (fun _ _ _ h => h) (by rfl) ?_ ?_
        rotate_left
        · (intro w; go_simp; try with_reducible rfl)
        simp only [List.setIfInBounds_toArray, List.set_cons_zero, List.set_cons_succ]
        refine reg_one 18 (m1 := (bitsA 22 524287)) rfl (by kernel_rfl) rfl (by kernel_rfl) ?_
        intro K hK
        go_simp
        refine (sum_one _ _ _ _ hp3).mono ?_
        rintro e wn ⟨rfl, hbn⟩
        clear hp3
        replace hW := hW.thenB hbn
        clear hbn
        refine hK _ _ ?_
        clear hK K
        rotate_left
        intro K hK
        go_simp
        have hp2 := PartsAt.one (hbb.kept hW) 22
        try simp only [World.size_alloc, World.size_drew] at hp2
        replace hp1 := hp1.alloc (.cells #[.slice ab k cb] 22)
        replace hW := hW.more (.cells #[.slice ab k cb] 22)
        refine hK _ _ ?_
        clear hK K
        refine reg_two 7 17 (m1 := (bitsA 22 118783)) (m2 := (bitsA 22 249727)) rfl (by kernel_rfl) rfl rfl (by kernel_rfl) rfl (by kernel_rfl) ?_ ?_
        intro K hK
        go_simp
        refine (sum_one _ _ _ _ hp1).mono ?_
        rintro e wn ⟨rfl, hbn⟩
        clear hp1
        replace hp2 := hp2.below hbn
        replace hW := hW.thenB hbn
        clear hbn
        refine hK _ _ ?_
        clear hK K
        refine reg_two 12 17 (m1 := (bitsA 22 122879)) (m2 := (bitsA 22 249855)) rfl (by kernel_rfl) rfl rfl (by kernel_rfl) rfl (by kernel_rfl) ?_ ?_
        intro K hK
        go_simp
        refine (sum_one _ _ _ _ hp2).mono ?_
        rintro e wn ⟨rfl, hbn⟩
        clear hp2
        replace hW := hW.thenB hbn
        clear hbn
        refine hK _ _ ?_
        clear hK K
        refine reg_take 13 (d := 63) (v := ?_) (listed' := (bitsA 22 131071)) rfl rfl (by kernel_rfl) (by kernel_rfl) (by kernel_rfl) (by kernel_rfl) (fun _ _ _ h => h) (by rfl) ?_ ?_
        rotate_left
        · (intro w; go_simp; try with_reducible rfl)
        simp only [List.setIfInBounds_toArray, List.set_cons_zero, List.set_cons_succ]
        refine reg_one 17 (m1 := (bitsA 22 262143)) rfl (by kernel_rfl) rfl (by kernel_rfl) ?_
        intro K hK
        go_simp
        have hp3 := PartsAt.one (hcc.kept hW) 22
        try simp only [World.size_alloc, World.size_drew] at hp3
        replace hW := hW.more (.cells #[.slice ac k cc] 22)
        refine hK _ _ ?_
        clear hK K
        refine reg_one 18 (m1 := (bitsA 22 524287)) rfl (by kernel_rfl) rfl (by kernel_rfl) ?_
        intro K hK
        go_simp
        refine (sum_one _ _ _ _ hp3).mono ?_
        rintro e wn ⟨rfl, hbn⟩
        clear hp3
        replace hW := hW.thenB hbn
        clear hbn
        refine hK _ _ ?_
        clear hK K
        rotate_left
        intro K hK
        go_simp
        have hp3 := PartsAt.one (hcc.kept hW) 22
        try simp only [World.size_alloc, World.size_drew] at hp3
        replace hp2 := hp2.alloc (.cells #[.slice ac k cc] 22)
        replace hW := hW.more (.cells #[.slice ac k cc] 22)
        refine hK _ _ ?_
        clear hK K
        refine reg_one 12 (m1 := (bitsA 22 253951)) rfl (by kernel_rfl) rfl (by kernel_rfl) ?_
        intro K hK
        go_simp
        refine (sum_one _ _ _ _ hp2).mono ?_
        rintro e wn ⟨rfl, hbn⟩
        clear hp2
        replace hp3 := hp3.below hbn
        replace hW := hW.thenB hbn
        clear hbn
        refine hK _ _ ?_
        clear hK K
        refine reg_take 13 (d := 63) (v := ?_) (listed' := (bitsA 22 262143)) rfl rfl (by kernel_rfl) (by kernel_rfl) (by kernel_rfl) (by kernel_rfl) (fun _ _ _ h => h) (by rfl) ?_ ?_
        rotate_left
        · (intro w; go_simp; try with_reducible rfl)
        simp only [List.setIfInBounds_toArray, List.set_cons_zero, List.set_cons_succ]
        refine reg_one 18 (m1 := (bitsA 22 524287)) rfl (by kernel_rfl) rfl (by kernel_rfl) ?_
        intro K hK
        go_simp
        refine (sum_one _ _ _ _ hp3).mono ?_
        rintro e wn ⟨rfl, hbn⟩
        clear hp3
        replace hW := hW.thenB hbn
        clear hbn
        refine hK _ _ ?_
        clear hK K
        rotate_left
        intro K hK
        go_simp
        have hp3 := PartsAt.one (hcc.kept hW) 22
        try simp only [World.size_alloc, World.size_drew] at hp3
        replace hp1 := hp1.alloc (.cells #[.slice ac k cc] 22)
        replace hp2 := hp2.alloc (.cells #[.slice ac k cc] 22)
        replace hW := hW.more (.cells #[.slice ac k cc] 22)
        refine hK _ _ ?_
        clear hK K
        refine reg_one 7 (m1 := (bitsA 22 249855)) rfl (by kernel_rfl) rfl (by kernel_rfl) ?_
        intro K hK
        go_simp
        refine (sum_one _ _ _ _ hp1).mono ?_
        rintro e wn ⟨rfl, hbn⟩
        clear hp1
        replace hp2 := hp2.below hbn
        replace hp3 := hp3.below hbn
        replace hW := hW.thenB hbn
        clear hbn
        refine hK _ _ ?_
        clear hK K
        refine reg_one 12 (m1 := (bitsA 22 253951)) rfl (by kernel_rfl) rfl (by kernel_rfl) ?_
        intro K hK
        go_simp
        refine (sum_one _ _ _ _ hp2).mono ?_
        rintro e wn ⟨rfl, hbn⟩
        clear hp2
        replace hp3 := hp3.below hbn
        replace hW := hW.thenB hbn
        clear hbn
        refine hK _ _ ?_
        clear hK K
        refine reg_take 13 (d := 63) (v := ?_) (listed' := (bitsA 22 262143)) rfl rfl (by kernel_rfl) (by kernel_rfl) (by kernel_rfl) (by kernel_rfl) (fun _ _ _ h => h) (by rfl) ?_ ?_
        rotate_left
        · (intro w; go_simp; try with_reducible rfl)
        simp only [List.setIfInBounds_toArray, List.set_cons_zero, List.set_cons_succ]
        refine reg_one 18 (m1 := (bitsA 22 524287)) rfl (by kernel_rfl) rfl (by kernel_rfl) ?_
        intro K hK
        go_simp
        refine (sum_one _ _ _ _ hp3).mono ?_
        rintro e wn ⟨rfl, hbn⟩
        clear hp3
        replace hW := hW.thenB hbn
        clear hbn
        refine hK _ _ ?_
        clear hK K
        rotate_left
        intro K hK
        go_simp
        have hp3 := PartsAt.one (hcc.kept hW) 22
        try simp only [World.size_alloc, World.size_drew] at hp3
        replace hp1 := hp1.alloc (.cells #[.slice ac k cc] 22)
        replace hW := hW.more (.cells #[.slice ac k cc] 22)
        refine hK _ _ ?_
        clear hK K
        refine reg_two 7 11 (m1 := (bitsA 22 247807)) (m2 := (bitsA 22 249727)) rfl (by kernel_rfl) rfl rfl (by kernel_rfl) rfl (by kernel_rfl) ?_ ?_
        intro K hK
        go_simp
        refine (sum_one _ _ _ _ hp1).mono ?_
        rintro e wn ⟨rfl, hbn⟩
        clear hp1
        replace hp3 := hp3.below hbn
        replace hW := hW.thenB hbn
        clear hbn
        refine hK _ _ ?_
        clear hK K
        refine reg_one 11 (m1 := (bitsA 22 249855)) rfl (by kernel_rfl) rfl (by kernel_rfl) ?_
        intro K hK
        go_simp
        have hp2 := PartsAt.one (hbb.kept hW) 22
        try simp only [World.size_alloc, World.size_drew] at hp2
        replace hp3 := hp3.alloc (.cells #[.slice ab k cb] 22)
        replace hW := hW.more (.cells #[.slice ab k cb] 22)
        refine hK _ _ ?_
        clear hK K
        refine reg_one 12 (m1 := (bitsA 22 253951)) rfl (by kernel_rfl) rfl (by kernel_rfl) ?_
        intro K hK
        go_simp
        refine (sum_one _ _ _ _ hp2).mono ?_
        rintro e wn ⟨rfl, hbn⟩
        clear hp2
        replace hp3 := hp3.below hbn
        replace hW := hW.thenB hbn
        clear hbn
        refine hK _ _ ?_
        clear hK K
        refine reg_take 13 (d := 63) (v := ?_) (listed' := (bitsA 22 262143)) rfl rfl (by kernel_rfl) (by kernel_rfl) (by kernel_rfl) (by kernel_rfl) (fun _ _ _ h => h) (by rfl) ?_ ?_
        rotate_left
        · (intro w; go_simp; try with_reducible rfl)
        simp only [List.setIfInBounds_toArray, List.set_cons_zero, List.set_cons_succ]
        refine reg_one 18 (m1 := (bitsA 22 524287)) rfl (by kernel_rfl) rfl (by kernel_rfl) ?_
        intro K hK
        go_simp
        refine (sum_one _ _ _ _ hp3).mono ?_
        rintro e wn ⟨rfl, hbn⟩
        clear hp3
        replace hW := hW.thenB hbn
        clear hbn
        refine hK _ _ ?_
        clear hK K
        rotate_left
        intro K hK
        go_simp
        have hp2 := PartsAt.one (hbb.kept hW) 22
        try simp only [World.size_alloc, World.size_drew] at hp2
        replace hp1 := hp1.alloc (.cells #[.slice ab k cb] 22)
        replace hp3 := hp3.alloc (.cells #[.slice ab k cb] 22)
        replace hW := hW.more (.cells #[.slice ab k cb] 22)
        refine hK _ _ ?_
        clear hK K
        refine reg_one 7 (m1 := (bitsA 22 249855)) rfl (by kernel_rfl) rfl (by kernel_rfl) ?_
        intro K hK
        go_simp
        refine (sum_one _ _ _ _ hp1).mono ?_
        rintro e wn ⟨rfl, hbn⟩
        clear hp1
        replace hp2 := hp2.below hbn
        replace hp3 := hp3.below hbn
        replace hW := hW.thenB hbn
        clear hbn
        refine hK _ _ ?_
        clear hK K
        refine reg_one 12 (m1 := (bitsA 22 253951)) rfl (by kernel_rfl) rfl (by kernel_rfl) ?_
        intro K hK
        go_simp
        refine (sum_one _ _ _ _ hp2).mono ?_
        rintro e wn ⟨rfl, hbn⟩
        clear hp2
        replace hp3 := hp3.below hbn
        replace hW := hW.thenB hbn
        clear hbn
        refine hK _ _ ?_
        clear hK K
        refine reg_take 13 (d := 63) (v := ?_) (listed' := (bitsA 22 262143)) rfl rfl (by kernel_rfl) (by kernel_rfl) (by kernel_rfl) (by kernel_rfl) (fun _ _ _ h => h) (by rfl) ?_ ?_
        rotate_left
        · (intro w; go_simp; try with_reducible rfl)
        simp only [List.setIfInBounds_toArray, List.set_cons_zero, List.set_cons_succ]
        refine reg_one 18 (m1 := (bitsA 22 524287)) rfl (by kernel_rfl) rfl (by kernel_rfl) ?_
        intro K hK
        go_simp
        refine (sum_one _ _ _ _ hp3).mono ?_
        rintro e wn ⟨rfl, hbn⟩
        clear hp3
        replace hW := hW.thenB hbn
        clear hbn
        refine hK _ _ ?_
        clear hK K
        rotate_left
        intro K hK
        go_simp
        have hp2 := PartsAt.one (hbb.kept hW) 22
        try simp only [World.size_alloc, World.size_drew] at hp2
        replace hp0 := hp0.alloc (.cells #[.slice ab k cb] 22)
        replace hp1 := hp1.alloc (.cells #[.slice ab k cb] 22)
        replace hW := hW.more (.cells #[.slice ab k cb] 22)
        refine hK _ _ ?_
        clear hK K
        refine reg_two 2 17 (m1 := (bitsA 22 118655)) (m2 := (bitsA 22 249723)) rfl (by kernel_rfl) rfl rfl (by kernel_rfl) rfl (by kernel_rfl) ?_ ?_
        intro K hK
        go_simp
        refine (sum_one _ _ _ _ hp0).mono ?_
        rintro e wn ⟨rfl, hbn⟩
        clear hp0
        replace hp1 := hp1.below hbn
        replace hp2 := hp2.below hbn
        replace hW := hW.thenB hbn
        clear hbn
        refine hK _ _ ?_
        clear hK K
        refine reg_two 7 17 (m1 := (bitsA 22 118783)) (m2 := (bitsA 22 249727)) rfl (by kernel_rfl) rfl rfl (by kernel_rfl) rfl (by kernel_rfl) ?_ ?_
        intro K hK
        go_simp
        refine (sum_one _ _ _ _ hp1).mono ?_
        rintro e wn ⟨rfl, hbn⟩
        clear hp1
        replace hp2 := hp2.below hbn
        replace hW := hW.thenB hbn
        clear hbn
        refine hK _ _ ?_
        clear hK K
        refine reg_two 12 17 (m1 := (bitsA 22 122879)) (m2 := (bitsA 22 249855)) rfl (by kernel_rfl) rfl rfl (by kernel_rfl) rfl (by kernel_rfl) ?_ ?_
        intro K hK
        go_simp
        refine (sum_one _ _ _ _ hp2).mono ?_
        rintro e wn ⟨rfl, hbn⟩
        clear hp2
        replace hW := hW.thenB hbn
        clear hbn
        refine hK _ _ ?_
        clear hK K
        refine reg_take 13 (d := 63) (v := ?_) (listed' := (bitsA 22 131071)) rfl rfl (by kernel_rfl) (by kernel_rfl) (by kernel_rfl) (by kernel_rfl) (fun _ _ _ h => h) (by rfl) ?_ ?_
        rotate_left
        · (intro w; go_simp; try with_reducible rfl)
        simp only [List.setIfInBounds_toArray, List.set_cons_zero, List.set_cons_succ]
        refine reg_one 17 (m1 := (bitsA 22 262143)) rfl (by kernel_rfl) rfl (by kernel_rfl) ?_
        intro K hK
        go_simp
        have hp3 := PartsAt.one (hcc.kept hW) 22
        try simp only [World.size_alloc, World.size_drew] at hp3
        replace hW := hW.more (.cells #[.slice ac k cc] 22)
        refine hK _ _ ?_
        clear hK K
        refine reg_one 18 (m1 := (bitsA 22 524287)) rfl (by kernel_rfl) rfl (by kernel_rfl) ?_
        intro K hK
        go_simp
        refine (sum_one _ _ _ _ hp3).mono ?_
        rintro e wn ⟨rfl, hbn⟩
        clear hp3
        replace hW := hW.thenB hbn
        clear hbn
        refine hK _ _ ?_
        clear hK K
        rotate_left
        intro K hK
        go_simp
        have hp3 := PartsAt.one (hcc.kept hW) 22
        try simp only [World.size_alloc, World.size_drew] at hp3
        replace hp2 := hp2.alloc (.cells #[.slice ac k cc] 22)
        replace hW := hW.more (.cells #[.slice ac k cc] 22)
        refine hK _ _ ?_
        clear hK K
        refine reg_one 12 (m1 := (bitsA 22 253951)) rfl (by kernel_rfl) rfl (by kernel_rfl) ?_
        intro K hK
        go_simp
        refine (sum_one _ _ _ _ hp2).mono ?_
        rintro e wn ⟨rfl, hbn⟩
        clear hp2
        replace hp3 := hp3.below hbn
        replace hW := hW.thenB hbn
        clear hbn
        refine hK _ _ ?_
        clear hK K
        refine reg_take 13 (d := 63) (v := ?_) (listed' := (bitsA 22 262143)) rfl rfl (by kernel_rfl) (by kernel_rfl) (by kernel_rfl) (by kernel_rfl) (fun _ _ _ h => h) (by rfl) ?_ ?_
        rotate_left
        · (intro w; go_simp; try with_reducible rfl)
        simp only [List.setIfInBounds_toArray, List.set_cons_zero, List.set_cons_succ]
        refine reg_one 18 (m1 := (bitsA 22 524287)) rfl (by kernel_rfl) rfl (by kernel_rfl) ?_
        intro K hK
        go_simp
        refine (sum_one _ _ _ _ hp3).mono ?_
        rintro e wn ⟨rfl, hbn⟩
        clear hp3
        replace hW := hW.thenB hbn
        clear hbn
        refine hK _ _ ?_
        clear hK K
        rotate_left
        intro K hK
        go_simp
        have hp3 := PartsAt.one (hcc.kept hW) 22
        try simp only [World.size_alloc, World.size_drew] at hp3
        replace hp1 := hp1.alloc (.cells #[.slice ac k cc] 22)
        replace hp2 := hp2.alloc (.cells #[.slice ac k cc] 22)
        replace hW := hW.more (.cells #[.slice ac k cc] 22)
        refine hK _ _ ?_
        clear hK K
        refine reg_one 7 (m1 := (bitsA 22 249855)) rfl (by kernel_rfl) rfl (by kernel_rfl) ?_
        intro K hK
        go_simp
        refine (sum_one _ _ _ _ hp1).mono ?_
        rintro e wn ⟨rfl, hbn⟩
        clear hp1
        replace hp2 := hp2.below hbn
        replace hp3 := hp3.below hbn
        replace hW := hW.thenB hbn
        clear hbn
        refine hK _ _ ?_
        clear hK K
        refine reg_one 12 (m1 := (bitsA 22 253951)) rfl (by kernel_rfl) rfl (by kernel_rfl) ?_
        intro K hK
        go_simp
        refine (sum_one _ _ _ _ hp2).mono ?_
        rintro e wn ⟨rfl, hbn⟩
        clear hp2
        replace hp3 := hp3.below hbn
        replace hW := hW.thenB hbn
        clear hbn
        refine hK _ _ ?_
        clear hK K
        refine reg_take 13 (d := 63) (v := ?_) (listed' := (bitsA 22 262143)) rfl rfl (by kernel_rfl) (by kernel_rfl) (by kernel_rfl) (by kernel_rfl) (fun _ _ _ h => h) (by rfl) ?_ ?_
        rotate_left
        · (intro w; go_simp; try with_reducible rfl)
        simp only [List.setIfInBounds_toArray, List.set_cons_zero, List.set_cons_succ]
        refine reg_one 18 (m1 := (bitsA 22 524287)) rfl (by kernel_rfl) rfl (by kernel_rfl) ?_
        intro K hK
        go_simp
        refine (sum_one _ _ _ _ hp3).mono ?_
        rintro e wn ⟨rfl, hbn⟩
        clear hp3
        replace hW := hW.thenB hbn
        clear hbn
        refine hK _ _ ?_
        clear hK K
        rotate_left
        intro K hK
        go_simp
        have hp3 := PartsAt.one (hcc.kept hW) 22
        try simp only [World.size_alloc, World.size_drew] at hp3
        replace hp0 := hp0.alloc (.cells #[.slice ac k cc] 22)
        replace hp1 := hp1.alloc (.cells #[.slice ac k cc] 22)
        replace hp2 := hp2.alloc (.cells #[.slice ac k cc] 22)
        replace hW := hW.more (.cells #[.slice ac k cc] 22)
        refine hK _ _ ?_
        clear hK K
        refine reg_one 2 (m1 := (bitsA 22 249727)) rfl (by kernel_rfl) rfl (by kernel_rfl) ?_
        intro K hK
        go_simp
        refine (sum_one _ _ _ _ hp0).mono ?_
        rintro e wn ⟨rfl, hbn⟩
        clear hp0
        replace hp1 := hp1.below hbn
        replace hp2 := hp2.below hbn
        replace hp3 := hp3.below hbn
        replace hW := hW.thenB hbn
        clear hbn
        refine hK _ _ ?_
        clear hK K
        refine reg_one 7 (m1 := (bitsA 22 249855)) rfl (by kernel_rfl) rfl (by kernel_rfl) ?_
        intro K hK
        go_simp
        refine (sum_one _ _ _ _ hp1).mono ?_
        rintro e wn ⟨rfl, hbn⟩
        clear hp1
        replace hp2 := hp2.below hbn
        replace hp3 := hp3.below hbn
        replace hW := hW.thenB hbn
        clear hbn
        refine hK _ _ ?_
        clear hK K
        refine reg_one 12 (m1 := (bitsA 22 253951)) rfl (by kernel_rfl) rfl (by kernel_rfl) ?_
        intro K hK
        go_simp
        refine (sum_one _ _ _ _ hp2).mono ?_
        rintro e wn ⟨rfl, hbn⟩
        clear hp2
        replace hp3 := hp3.below hbn
        replace hW := hW.thenB hbn
        clear hbn
        refine hK _ _ ?_
        clear hK K
        refine reg_take 13 (d := 63) (v := ?_) (listed' := (bitsA 22 262143)) rfl rfl (by kernel_rfl) (by kernel_rfl) (by kernel_rfl) (by kernel_rfl) (fun _ _ _ h => h) (by rfl) ?_ ?_
        rotate_left
        · (intro w; go_simp; try with_reducible rfl)
        simp only [List.setIfInBounds_toArray, List.set_cons_zero, List.set_cons_succ]
        refine reg_one 18 (m1 := (bitsA 22 524287)) rfl (by kernel_rfl) rfl (by kernel_rfl) ?_
        intro K hK
        go_simp
        refine (sum_one _ _ _ _ hp3).mono ?_
        rintro e wn ⟨rfl, hbn⟩
        clear hp3
        replace hW := hW.thenB hbn
        clear hbn
        refine hK _ _ ?_
        clear hK K
        rotate_left
        intro K hK
        go_simp
        have hp3 := PartsAt.one (hcc.kept hW) 22
        try simp only [World.size_alloc, World.size_drew] at hp3
        replace hp0 := hp0.alloc (.cells #[.slice ac k cc] 22)
        replace hp1 := hp1.alloc (.cells #[.slice ac k cc] 22)
        replace hW := hW.more (.cells #[.slice ac k cc] 22)
        refine hK _ _ ?_
        clear hK K
        refine reg_two 2 11 (m1 := (bitsA 22 247679)) (m2 := (bitsA 22 249723)) rfl (by kernel_rfl) rfl rfl (by kernel_rfl) rfl (by kernel_rfl) ?_ ?_
        intro K hK
        go_simp
        refine (sum_one _ _ _ _ hp0).mono ?_
        rintro e wn ⟨rfl, hbn⟩
        clear hp0
        replace hp1 := hp1.below hbn
        replace hp3 := hp3.below hbn
        replace hW := hW.thenB hbn
        clear hbn
        refine hK _ _ ?_
        clear hK K
        refine reg_two 7 11 (m1 := (bitsA 22 247807)) (m2 := (bitsA 22 249727)) rfl (by kernel_rfl) rfl rfl (by kernel_rfl) rfl (by kernel_rfl) ?_ ?_
        intro K hK
        go_simp
        refine (sum_one _ _ _ _ hp1).mono ?_
        rintro e wn ⟨rfl, hbn⟩
        clear hp1
        replace hp3 := hp3.below hbn
        replace hW := hW.thenB hbn
        clear hbn
        refine hK _ _ ?_
        clear hK K
        refine reg_one 11 (m1 := (bitsA 22 249855)) rfl (by kernel_rfl) rfl (by kernel_rfl) ?_
        intro K hK
        go_simp
        have hp2 := PartsAt.one (hbb.kept hW) 22
        try simp only [World.size_alloc, World.size_drew] at hp2
        replace hp3 := hp3.alloc (.cells #[.slice ab k cb] 22)
        replace hW := hW.more (.cells #[.slice ab k cb] 22)
        refine hK _ _ ?_
        clear hK K
        refine reg_one 12 (m1 := (bitsA 22 253951)) rfl (by kernel_rfl) rfl (by kernel_rfl) ?_
        intro K hK
        go_simp
        refine (sum_one _ _ _ _ hp2).mono ?_
        rintro e wn ⟨rfl, hbn⟩
        clear hp2
        replace hp3 := hp3.below hbn
        replace hW := hW.thenB hbn
        clear hbn
        refine hK _ _ ?_
        clear hK K
        refine reg_take 13 (d := 63) (v := ?_) (listed' := (bitsA 22 262143)) rfl rfl (by kernel_rfl) (by kernel_rfl) (by kernel_rfl) (by kernel_rfl) (fun _ _ _ h => h) (by rfl) ?_ ?_
        rotate_left
        · (intro w; go_simp; try with_reducible rfl)
        simp only [List.setIfInBounds_toArray, List.set_cons_zero, List.set_cons_succ]
        refine reg_one 18 (m1 := (bitsA 22 524287)) rfl (by kernel_rfl) rfl (by kernel_rfl) ?_
        intro K hK
        go_simp
        refine (sum_one _ _ _ _ hp3).mono ?_
        rintro e wn ⟨rfl, hbn⟩
        clear hp3
        replace hW := hW.thenB hbn
        clear hbn
        refine hK _ _ ?_
        clear hK K
        rotate_left
        intro K hK
        go_simp
        have hp2 := PartsAt.one (hbb.kept hW) 22
        try simp only [World.size_alloc, World.size_drew] at hp2
        replace hp1 := hp1.alloc (.cells #[.slice ab k cb] 22)
        replace hp3 := hp3.alloc (.cells #[.slice ab k cb] 22)
        replace hW := hW.more (.cells #[.slice ab k cb] 22)
        refine hK _ _ ?_
        clear hK K
        refine reg_one 7 (m1 := (bitsA 22 249855)) rfl (by kernel_rfl) rfl (by kernel_rfl) ?_
        intro K hK
        go_simp
        refine (sum_one _ _ _ _ hp1).mono ?_
        rintro e wn ⟨rfl, hbn⟩
        clear hp1
        replace hp2 := hp2.below hbn
        replace hp3 := hp3.below hbn
        replace hW := hW.thenB hbn
        clear hbn
        refine hK _ _ ?_
        clear hK K
        refine reg_one 12 (m1 := (bitsA 22 253951)) rfl (by kernel_rfl) rfl (by kernel_rfl) ?_
        intro K hK
        go_simp
        refine (sum_one _ _ _ _ hp2).mono ?_
        rintro e wn ⟨rfl, hbn⟩
        clear hp2
        replace hp3 := hp3.below hbn
        replace hW := hW.thenB hbn
        clear hbn
        refine hK _ _ ?_
        clear hK K
        refine reg_take 13 (d := 63) (v := ?_) (listed' := (bitsA 22 262143)) rfl rfl (by kernel_rfl) (by kernel_rfl) (by kernel_rfl) (by kernel_rfl) (fun _ _ _ h => h) (by rfl) ?_ ?_
        rotate_left
        · (intro w; go_simp; try with_reducible rfl)
        simp only [List.setIfInBounds_toArray, List.set_cons_zero, List.set_cons_succ]
        refine reg_one 18 (m1 := (bitsA 22 524287)) rfl (by kernel_rfl) rfl (by kernel_rfl) ?_
        intro K hK
        go_simp
        refine (sum_one _ _ _ _ hp3).mono ?_
        rintro e wn ⟨rfl, hbn⟩
        clear hp3
        replace hW := hW.thenB hbn
        clear hbn
        refine hK _ _ ?_
        clear hK K
        rotate_left
        intro K hK
        go_simp
        have hp2 := PartsAt.one (hbb.kept hW) 22
        try simp only [World.size_alloc, World.size_drew] at hp2
        replace hp0 := hp0.alloc (.cells #[.slice ab k cb] 22)
        replace hp1 := hp1.alloc (.cells #[.slice ab k cb] 22)
        replace hp3 := hp3.alloc (.cells #[.slice ab k cb] 22)
        replace hW := hW.more (.cells #[.slice ab k cb] 22)
        refine hK _ _ ?_
        clear hK K
        refine reg_one 2 (m1 := (bitsA 22 249727)) rfl (by kernel_rfl) rfl (by kernel_rfl) ?_
        intro K hK
        go_simp
        refine (sum_one _ _ _ _ hp0).mono ?_
        rintro e wn ⟨rfl, hbn⟩
        clear hp0
        replace hp1 := hp1.below hbn
        replace hp2 := hp2.below hbn
        replace hp3 := hp3.below hbn
        replace hW := hW.thenB hbn
        clear hbn
        refine hK _ _ ?_
        clear hK K
        refine reg_one 7 (m1 := (bitsA 22 249855)) rfl (by kernel_rfl) rfl (by kernel_rfl) ?_
        intro K hK
        go_simp
        refine (sum_one _ _ _ _ hp1).mono ?_
        rintro e wn ⟨rfl, hbn⟩
        clear hp1
        replace hp2 := hp2.below hbn
        replace hp3 := hp3.below hbn
        replace hW := hW.thenB hbn
        clear hbn
        refine hK _ _ ?_
        clear hK K
        refine reg_one 12 (m1 := (bitsA 22 253951)) rfl (by kernel_rfl) rfl (by kernel_rfl) ?_
        intro K hK
        go_simp
        refine (sum_one _ _ _ _ hp2).mono ?_
        rintro e wn ⟨rfl, hbn⟩
        clear hp2
        replace hp3 := hp3.below hbn
        replace hW := hW.thenB hbn
        clear hbn
        refine hK _ _ ?_
        clear hK K
        refine reg_take 13 (d := 63) (v := ?_) (listed' := (bitsA 22 262143)) rfl rfl (by kernel_rfl) (by kernel_rfl) (by kernel_rfl) (by kernel_rfl) (fun _ _ _ h => h) (by rfl) ?_ ?_
        rotate_left
        · (intro w; go_simp; try with_reducible rfl)
        simp only [List.setIfInBounds_toArray, List.set_cons_zero, List.set_cons_succ]
        refine reg_one 18 (m1 := (bitsA 22 524287)) rfl (by kernel_rfl) rfl (by kernel_rfl) ?_
        intro K hK
        go_simp
        refine (sum_one _ _ _ _ hp3).mono ?_
        rintro e wn ⟨rfl, hbn⟩
        clear hp3
        replace hW := hW.thenB hbn
        clear hbn
        refine hK _ _ ?_
        clear hK K
        rotate_left
        intro K hK
        go_simp
        have hp2 := PartsAt.one (hbb.kept hW) 22
        try simp only [World.size_alloc, World.size_drew] at hp2
        replace hp1 := hp1.alloc (.cells #[.slice ab k cb] 22)
        replace hW := hW.more (.cells #[.slice ab k cb] 22)
        refine hK _ _ ?_
        clear hK K
        refine reg_two 1 17 (m1 := (bitsA 22 118651)) (m2 := (bitsA 22 249721)) rfl (by kernel_rfl) rfl rfl (by kernel_rfl) rfl (by kernel_rfl) ?_ ?_
        intro K hK
        go_simp
        have hp0 := PartsAt.one (hm.kept hW) 22
        try simp only [World.size_alloc, World.size_drew] at hp0
        replace hp1 := hp1.alloc (.cells #[.slice am k cm] 22)
        replace hp2 := hp2.alloc (.cells #[.slice am k cm] 22)
        replace hW := hW.more (.cells #[.slice am k cm] 22)
        refine hK _ _ ?_
        clear hK K
        refine reg_two 2 17 (m1 := (bitsA 22 118655)) (m2 := (bitsA 22 249723)) rfl (by kernel_rfl) rfl rfl (by kernel_rfl) rfl (by kernel_rfl) ?_ ?_
        intro K hK
        go_simp
        refine (sum_one _ _ _ _ hp0).mono ?_
        rintro e wn ⟨rfl, hbn⟩
        clear hp0
        replace hp1 := hp1.below hbn
        replace hp2 := hp2.below hbn
        replace hW := hW.thenB hbn
        clear hbn
        refine hK _ _ ?_
        clear hK K
        refine reg_two 7 17 (m1 := (bitsA 22 118783)) (m2 := (bitsA 22 249727)) rfl (by kernel_rfl) rfl rfl (by kernel_rfl) rfl (by kernel_rfl) ?_ ?_
        intro K hK
        go_simp
        refine (sum_one _ _ _ _ hp1).mono ?_
        rintro e wn ⟨rfl, hbn⟩
        clear hp1
        replace hp2 := hp2.below hbn
        replace hW := hW.thenB hbn
        clear hbn
        refine hK _ _ ?_
        clear hK K
        refine reg_two 12 17 (m1 := (bitsA 22 122879)) (m2 := (bitsA 22 249855)) rfl (by kernel_rfl) rfl rfl (by kernel_rfl) rfl (by kernel_rfl) ?_ ?_
        intro K hK
        go_simp
        refine (sum_one _ _ _ _ hp2).mono ?_
        rintro e wn ⟨rfl, hbn⟩
        clear hp2
        replace hW := hW.thenB hbn
        clear hbn
        refine hK _ _ ?_
        clear hK K
        refine reg_take 13 (d := 63) (v := ?_) (listed' := (bitsA 22 131071)) rfl rfl (by kernel_rfl) (by kernel_rfl) (by kernel_rfl) (by kernel_rfl) (fun _ _ _ h => h) (by rfl) ?_ ?_
        rotate_left
        · (intro w; go_simp; try with_reducible rfl)
        simp only [List.setIfInBounds_toArray, List.set_cons_zero, List.set_cons_succ]
        refine reg_one 17 (m1 := (bitsA 22 262143)) rfl (by kernel_rfl) rfl (by kernel_rfl) ?_
        intro K hK
        go_simp
        have hp3 := PartsAt.one (hcc.kept hW) 22
        try simp only [World.size_alloc, World.size_drew] at hp3
        replace hW := hW.more (.cells #[.slice ac k cc] 22)
        refine hK _ _ ?_
        clear hK K
        refine reg_one 18 (m1 := (bitsA 22 524287)) rfl (by kernel_rfl) rfl (by kernel_rfl) ?_
        intro K hK
        go_simp
        refine (sum_one _ _ _ _ hp3).mono ?_
        rintro e wn ⟨rfl, hbn⟩
        clear hp3
        replace hW := hW.thenB hbn
        clear hbn
        refine hK _ _ ?_
        clear hK K
        rotate_left
        intro K hK
        go_simp
        have hp3 := PartsAt.one (hcc.kept hW) 22
        try simp only [World.size_alloc, World.size_drew] at hp3
        replace hp2 := hp2.alloc (.cells #[.slice ac k cc] 22)
        replace hW := hW.more (.cells #[.slice ac k cc] 22)
        refine hK _ _ ?_
        clear hK K
        refine reg_one 12 (m1 := (bitsA 22 253951)) rfl (by kernel_rfl) rfl (by kernel_rfl) ?_
        intro K hK
        go_simp
        refine (sum_one _ _ _ _ hp2).mono ?_
        rintro e wn ⟨rfl, hbn⟩
        clear hp2
        replace hp3 := hp3.below hbn
        replace hW := hW.thenB hbn
        clear hbn
        refine hK _ _ ?_
        clear hK K
        refine reg_take 13 (d := 63) (v := ?_) (listed' := (bitsA 22 262143)) rfl rfl (by kernel_rfl) (by kernel_rfl) (by kernel_rfl) (by kernel_rfl) (fun _ _ _ h => h) (by rfl) ?_ ?_
        rotate_left
        · (intro w; go_simp; try with_reducible rfl)
        simp only [List.setIfInBounds_toArray, List.set_cons_zero, List.set_cons_succ]
        refine reg_one 18 (m1 := (bitsA 22 524287)) rfl (by kernel_rfl) rfl (by kernel_rfl) ?_
        intro K hK
        go_simp
        refine (sum_one _ _ _ _ hp3).mono ?_
        rintro e wn ⟨rfl, hbn⟩
        clear hp3
        replace hW := hW.thenB hbn
        clear hbn
        refine hK _ _ ?_
        clear hK K
        rotate_left
        intro K hK
        go_simp
        have hp3 := PartsAt.one (hcc.kept hW) 22
        try simp only [World.size_alloc, World.size_drew] at hp3
        replace hp1 := hp1.alloc (.cells #[.slice ac k cc] 22)
        replace hp2 := hp2.alloc (.cells #[.slice ac k cc] 22)
        replace hW := hW.more (.cells #[.slice ac k cc] 22)
        refine hK _ _ ?_
        clear hK K
        refine reg_one 7 (m1 := (bitsA 22 249855)) rfl (by kernel_rfl) rfl (by kernel_rfl) ?_
        intro K hK
        go_simp
        refine (sum_one _ _ _ _ hp1).mono ?_
        rintro e wn ⟨rfl, hbn⟩
        clear hp1
        replace hp2 := hp2.below hbn
        replace hp3 := hp3.below hbn
        replace hW := hW.thenB hbn
        clear hbn
        refine hK _ _ ?_
        clear hK K
        refine reg_one 12 (m1 := (bitsA 22 253951)) rfl (by kernel_rfl) rfl (by kernel_rfl) ?_
        intro K hK
        go_simp
        refine (sum_one _ _ _ _ hp2).mono ?_
        rintro e wn ⟨rfl, hbn⟩
        clear hp2
        replace hp3 := hp3.below hbn
        replace hW := hW.thenB hbn
        clear hbn
        refine hK _ _ ?_
        clear hK K
        refine reg_take 13 (d := 63) (v := ?_) (listed' := (bitsA 22 262143)) rfl rfl (by kernel_rfl) (by kernel_rfl) (by kernel_rfl) (by kernel_rfl) (fun _ _ _ h => h) (by rfl) ?_ ?_
        rotate_left
        · (intro w; go_simp; try with_reducible rfl)
        simp only [List.setIfInBounds_toArray, List.set_cons_zero, List.set_cons_succ]
        refine reg_one 18 (m1 := (bitsA 22 524287)) rfl (by kernel_rfl) rfl (by kernel_rfl) ?_
        intro K hK
        go_simp
        refine (sum_one _ _ _ _ hp3).mono ?_
        rintro e wn ⟨rfl, hbn⟩
        clear hp3
        replace hW := hW.thenB hbn
        clear hbn
        refine hK _ _ ?_
        clear hK K
        rotate_left
        intro K hK
        go_simp
        have hp3 := PartsAt.one (hcc.kept hW) 22
        try simp only [World.size_alloc, World.size_drew] at hp3
        replace hp0 := hp0.alloc (.cells #[.slice ac k cc] 22)
        replace hp1 := hp1.alloc (.cells #[.slice ac k cc] 22)
        replace hp2 := hp2.alloc (.cells #[.slice ac k cc] 22)
        replace hW := hW.more (.cells #[.slice ac k cc] 22)
        refine hK _ _ ?_
        clear hK K
        refine reg_one 2 (m1 := (bitsA 22 249727)) rfl (by kernel_rfl) rfl (by kernel_rfl) ?_
        intro K hK
        go_simp
        refine (sum_one _ _ _ _ hp0).mono ?_
        rintro e wn ⟨rfl, hbn⟩
        clear hp0
        replace hp1 := hp1.below hbn
        replace hp2 := hp2.below hbn
        replace hp3 := hp3.below hbn
        replace hW := hW.thenB hbn
        clear hbn
        refine hK _ _ ?_
        clear hK K
        refine reg_one 7 (m1 := (bitsA 22 249855)) rfl (by kernel_rfl) rfl (by kernel_rfl) ?_
        intro K hK
        go_simp
        refine (sum_one _ _ _ _ hp1).mono ?_
        rintro e wn ⟨rfl, hbn⟩
        clear hp1
        replace hp2 := hp2.below hbn
        replace hp3 := hp3.below hbn
        replace hW := hW.thenB hbn
        clear hbn
        refine hK _ _ ?_
        clear hK K
        refine reg_one 12 (m1 := (bitsA 22 253951)) rfl (by kernel_rfl) rfl (by kernel_rfl) ?_
        intro K hK
        go_simp
        refine (sum_one _ _ _ _ hp2).mono ?_
        rintro e wn ⟨rfl, hbn⟩
        clear hp2
        replace hp3 := hp3.below hbn
        replace hW := hW.thenB hbn
        clear hbn
        refine hK _ _ ?_
        clear hK K
        refine reg_take 13 (d := 63) (v := ?_) (listed' := (bitsA 22 262143)) rfl rfl (by kernel_rfl) (by kernel_rfl) (by kernel_rfl) (by kernel_rfl) (fun _ _ _ h => h) (by rfl) ?_ ?_
        rotate_left
        · (intro w; go_simp; try with_reducible rfl)
        simp only [List.setIfInBounds_toArray, List.set_cons_zero, List.set_cons_succ]
        refine reg_one 18 (m1 := (bitsA 22 524287)) rfl (by kernel_rfl) rfl (by kernel_rfl) ?_
        intro K hK
        go_simp
        refine (sum_one _ _ _ _ hp3).mono ?_
        rintro e wn ⟨rfl, hbn⟩
        clear hp3
        replace hW := hW.thenB hbn
        clear hbn
        refine hK _ _ ?_
        clear hK K
        rotate_left
        intro K hK
        go_simp
        have hp3 := PartsAt.one (hcc.kept hW) 22
        try simp only [World.size_alloc, World.size_drew] at hp3
        replace hp1 := hp1.alloc (.cells #[.slice ac k cc] 22)
        replace hp2 := hp2.alloc (.cells #[.slice ac k cc] 22)
        replace hW := hW.more (.cells #[.slice ac k cc] 22)
        refine hK _ _ ?_
        clear hK K
        refine reg_one 1 (m1 := (bitsA 22 249723)) rfl (by kernel_rfl) rfl (by kernel_rfl) ?_
        intro K hK
        go_simp
        have hp0 := PartsAt.one (hm.kept hW) 22
        try simp only [World.size_alloc, World.size_drew] at hp0
        replace hp1 := hp1.alloc (.cells #[.slice am k cm] 22)
        replace hp2 := hp2.alloc (.cells #[.slice am k cm] 22)
        replace hp3 := hp3.alloc (.cells #[.slice am k cm] 22)
        replace hW := hW.more (.cells #[.slice am k cm] 22)
        refine hK _ _ ?_
        clear hK K
        refine reg_one 2 (m1 := (bitsA 22 249727)) rfl (by kernel_rfl) rfl (by kernel_rfl) ?_
        intro K hK
        go_simp
        refine (sum_one _ _ _ _ hp0).mono ?_
        rintro e wn ⟨rfl, hbn⟩
        clear hp0
        replace hp1 := hp1.below hbn
        replace hp2 := hp2.below hbn
        replace hp3 := hp3.below hbn
        replace hW := hW.thenB hbn
        clear hbn
        refine hK _ _ ?_
        clear hK K
        refine reg_one 7 (m1 := (bitsA 22 249855)) rfl (by kernel_rfl) rfl (by kernel_rfl) ?_
        intro K hK
        go_simp
        refine (sum_one _ _ _ _ hp1).mono ?_
        rintro e wn ⟨rfl, hbn⟩
        clear hp1
        replace hp2 := hp2.below hbn
        replace hp3 := hp3.below hbn
        replace hW := hW.thenB hbn
        clear hbn
        refine hK _ _ ?_
        clear hK K
        refine reg_one 12 (m1 := (bitsA 22 253951)) rfl (by kernel_rfl) rfl (by kernel_rfl) ?_
        intro K hK
        go_simp
        refine (sum_one _ _ _ _ hp2).mono ?_
        rintro e wn ⟨rfl, hbn⟩
        clear hp2
        replace hp3 := hp3.below hbn
        replace hW := hW.thenB hbn
        clear hbn
        refine hK _ _ ?_
        clear hK K
        refine reg_take 13 (d := 63) (v := ?_) (listed' := (bitsA 22 262143)) rfl rfl (by kernel_rfl) (by kernel_rfl) (by kernel_rfl) (by kernel_rfl) (fun _ _ _ h => h) (by rfl) ?_ ?_
        rotate_left
        · (intro w; go_simp; try with_reducible rfl)
        simp only [List.setIfInBounds_toArray, List.set_cons_zero, List.set_cons_succ]
        refine reg_one 18 (m1 := (bitsA 22 524287)) rfl (by kernel_rfl) rfl (by kernel_rfl) ?_
        intro K hK
        go_simp
        refine (sum_one _ _ _ _ hp3).mono ?_
        rintro e wn ⟨rfl, hbn⟩
        clear hp3
        replace hW := hW.thenB hbn
        clear hbn
        refine hK _ _ ?_
        clear hK K
        rotate_left
        intro K hK
        go_simp
        have hp3 := PartsAt.one (hcc.kept hW) 22
        try simp only [World.size_alloc, World.size_drew] at hp3
        replace hp1 := hp1.alloc (.cells #[.slice ac k cc] 22)
        replace hW := hW.more (.cells #[.slice ac k cc] 22)
        refine hK _ _ ?_
        clear hK K
        refine reg_two 1 11 (m1 := (bitsA 22 247675)) (m2 := (bitsA 22 249721)) rfl (by kernel_rfl) rfl rfl (by kernel_rfl) rfl (by kernel_rfl) ?_ ?_
        intro K hK
        go_simp
        have hp0 := PartsAt.one (hm.kept hW) 22
        try simp only [World.size_alloc, World.size_drew] at hp0
        replace hp1 := hp1.alloc (.cells #[.slice am k cm] 22)
        replace hp3 := hp3.alloc (.cells #[.slice am k cm] 22)
        replace hW := hW.more (.cells #[.slice am k cm] 22)
        refine hK _ _ ?_
        clear hK K
        refine reg_two 2 11 (m1 := (bitsA 22 247679)) (m2 := (bitsA 22 249723)) rfl (by kernel_rfl) rfl rfl (by kernel_rfl) rfl (by kernel_rfl) ?_ ?_
        intro K hK
        go_simp
        refine (sum_one _ _ _ _ hp0).mono ?_
        rintro e wn ⟨rfl, hbn⟩
        clear hp0
        replace hp1 := hp1.below hbn
        replace hp3 := hp3.below hbn
        replace hW := hW.thenB hbn
        clear hbn
        refine hK _ _ ?_
        clear hK K
        refine reg_two 7 11 (m1 := (bitsA 22 247807)) (m2 := (bitsA 22 249727)) rfl (by kernel_rfl) rfl rfl (by kernel_rfl) rfl (by kernel_rfl) ?_ ?_
        intro K hK
        go_simp
        refine (sum_one _ _ _ _ hp1).mono ?_
        rintro e wn ⟨rfl, hbn⟩
        clear hp1
        replace hp3 := hp3.below hbn
        replace hW := hW.thenB hbn
        clear hbn
        refine hK _ _ ?_
        clear hK K
        refine reg_one 11 (m1 := (bitsA 22 249855)) rfl (by kernel_rfl) rfl (by kernel_rfl) ?_
        intro K hK
        go_simp
        have hp2 := PartsAt.one (hbb.kept hW) 22
        try simp only [World.size_alloc, World.size_drew] at hp2
        replace hp3 := hp3.alloc (.cells #[.slice ab k cb] 22)
        replace hW := hW.more (.cells #[.slice ab k cb] 22)
        refine hK _ _ ?_
        clear hK K
        refine reg_one 12 (m1 := (bitsA 22 253951)) rfl (by kernel_rfl) rfl (by kernel_rfl) ?_
        intro K hK
        go_simp
        refine (sum_one _ _ _ _ hp2).mono ?_
        rintro e wn ⟨rfl, hbn⟩
        clear hp2
        replace hp3 := hp3.below hbn
        replace hW := hW.thenB hbn
        clear hbn
        refine hK _ _ ?_
        clear hK K
        refine reg_take 13 (d := 63) (v := ?_) (listed' := (bitsA 22 262143)) rfl rfl (by kernel_rfl) (by kernel_rfl) (by kernel_rfl) (by kernel_rfl) (fun _ _ _ h => h) (by rfl) ?_ ?_
        rotate_left
        · (intro w; go_simp; try with_reducible rfl)
        simp only [List.setIfInBounds_toArray, List.set_cons_zero, List.set_cons_succ]
        refine reg_one 18 (m1 := (bitsA 22 524287)) rfl (by kernel_rfl) rfl (by kernel_rfl) ?_
        intro K hK
        go_simp
        refine (sum_one _ _ _ _ hp3).mono ?_
        rintro e wn ⟨rfl, hbn⟩
        clear hp3
        replace hW := hW.thenB hbn
        clear hbn
        refine hK _ _ ?_
        clear hK K
        rotate_left
        intro K hK
        go_simp
        have hp2 := PartsAt.one (hbb.kept hW) 22
        try simp only [World.size_alloc, World.size_drew] at hp2
        replace hp1 := hp1.alloc (.cells #[.slice ab k cb] 22)
        replace hp3 := hp3.alloc (.cells #[.slice ab k cb] 22)
        replace hW := hW.more (.cells #[.slice ab k cb] 22)
        refine hK _ _ ?_
        clear hK K
        refine reg_one 7 (m1 := (bitsA 22 249855)) rfl (by kernel_rfl) rfl (by kernel_rfl) ?_
        intro K hK
        go_simp
        refine (sum_one _ _ _ _ hp1).mono ?_
        rintro e wn ⟨rfl, hbn⟩
        clear hp1
        replace hp2 := hp2.below hbn
        replace hp3 := hp3.below hbn
        replace hW := hW.thenB hbn
        clear hbn
        refine hK _ _ ?_
        clear hK K
        refine reg_one 12 (m1 := (bitsA 22 253951)) rfl (by kernel_rfl) rfl (by kernel_rfl) ?_
        intro K hK
        go_simp
        refine (sum_one _ _ _ _ hp2).mono ?_
        rintro e wn ⟨rfl, hbn⟩
        clear hp2
        replace hp3 := hp3.below hbn
        replace hW := hW.thenB hbn
        clear hbn
        refine hK _ _ ?_
        clear hK K
        refine reg_take 13 (d := 63) (v := ?_) (listed' := (bitsA 22 262143)) rfl rfl (by kernel_rfl) (by kernel_rfl) (by kernel_rfl) (by kernel_rfl) (fun _ _ _ h => h) (by rfl) ?_ ?_
        rotate_left
        · (intro w; go_simp; try with_reducible rfl)
        simp only [List.setIfInBounds_toArray, List.set_cons_zero, List.set_cons_succ]
        refine reg_one 18 (m1 := (bitsA 22 524287)) rfl (by kernel_rfl) rfl (by kernel_rfl) ?_
        intro K hK
        go_simp
        refine (sum_one _ _ _ _ hp3).mono ?_
        rintro e wn ⟨rfl, hbn⟩
        clear hp3
        replace hW := hW.thenB hbn
        clear hbn
        refine hK _ _ ?_
        clear hK K
        rotate_left
        intro K hK
        go_simp
        have hp2 := PartsAt.one (hbb.kept hW) 22
        try simp only [World.size_alloc, World.size_drew] at hp2
        replace hp0 := hp0.alloc (.cells #[.slice ab k cb] 22)
        replace hp1 := hp1.alloc (.cells #[.slice ab k cb] 22)
        replace hp3 := hp3.alloc (.cells #[.slice ab k cb] 22)
        replace hW := hW.more (.cells #[.slice ab k cb] 22)
        refine hK _ _ ?_
        clear hK K
        refine reg_one 2 (m1 := (bitsA 22 249727)) rfl (by kernel_rfl) rfl (by kernel_rfl) ?_
        intro K hK
        go_simp
        refine (sum_one _ _ _ _ hp0).mono ?_
        rintro e wn ⟨rfl, hbn⟩
        clear hp0
        replace hp1 := hp1.below hbn
        replace hp2 := hp2.below hbn
        replace hp3 := hp3.below hbn
        replace hW := hW.thenB hbn
        clear hbn
        refine hK _ _ ?_
        clear hK K
        refine reg_one 7 (m1 := (bitsA 22 249855)) rfl (by kernel_rfl) rfl (by kernel_rfl) ?_
        intro K hK
        go_simp
        refine (sum_one _ _ _ _ hp1).mono ?_
        rintro e wn ⟨rfl, hbn⟩
        clear hp1
        replace hp2 := hp2.below hbn
        replace hp3 := hp3.below hbn
        replace hW := hW.thenB hbn
        clear hbn
        refine hK _ _ ?_
        clear hK K
        refine reg_one 12 (m1 := (bitsA 22 253951)) rfl (by kernel_rfl) rfl (by kernel_rfl) ?_
        intro K hK
        go_simp
        refine (sum_one _ _ _ _ hp2).mono ?_
        rintro e wn ⟨rfl, hbn⟩
        clear hp2
        replace hp3 := hp3.below hbn
        replace hW := hW.thenB hbn
        clear hbn
        refine hK _ _ ?_
        clear hK K
        refine reg_take 13 (d := 63) (v := ?_) (listed' := (bitsA 22 262143)) rfl rfl (by kernel_rfl) (by kernel_rfl) (by kernel_rfl) (by kernel_rfl) (fun _ _ _ h => h) (by rfl) ?_ ?_
        rotate_left
        · (intro w; go_simp; try with_reducible rfl)
        simp only [List.setIfInBounds_toArray, List.set_cons_zero, List.set_cons_succ]
        refine reg_one 18 (m1 := (bitsA 22 524287)) rfl (by kernel_rfl) rfl (by kernel_rfl) ?_
        intro K hK
        go_simp
        refine (sum_one _ _ _ _ hp3).mono ?_
        rintro e wn ⟨rfl, hbn⟩
        clear hp3
        replace hW := hW.thenB hbn
        clear hbn
        refine hK _ _ ?_
        clear hK K
        rotate_left
        intro K hK
        go_simp
        have hp2 := PartsAt.one (hbb.kept hW) 22
        try simp only [World.size_alloc, World.size_drew] at hp2
        replace hp1 := hp1.alloc (.cells #[.slice ab k cb] 22)
        replace hp3 := hp3.alloc (.cells #[.slice ab k cb] 22)
        replace hW := hW.more (.cells #[.slice ab k cb] 22)
        refine hK _ _ ?_
        clear hK K
        refine reg_one 1 (m1 := (bitsA 22 249723)) rfl (by kernel_rfl) rfl (by kernel_rfl) ?_
        intro K hK
        go_simp
        have hp0 := PartsAt.one (hm.kept hW) 22
        try simp only [World.size_alloc, World.size_drew] at hp0
        replace hp1 := hp1.alloc (.cells #[.slice am k cm] 22)
        replace hp2 := hp2.alloc (.cells #[.slice am k cm] 22)
        replace hp3 := hp3.alloc (.cells #[.slice am k cm] 22)
        replace hW := hW.more (.cells #[.slice am k cm] 22)
        refine hK _ _ ?_
        clear hK K
        refine reg_one 2 (m1 := (bitsA 22 249727)) rfl (by kernel_rfl) rfl (by kernel_rfl) ?_
        intro K hK
        go_simp
        refine (sum_one _ _ _ _ hp0).mono ?_
        rintro e wn ⟨rfl, hbn⟩
        clear hp0
        replace hp1 := hp1.below hbn
        replace hp2 := hp2.below hbn
        replace hp3 := hp3.below hbn
        replace hW := hW.thenB hbn
        clear hbn
        refine hK _ _ ?_
        clear hK K
        refine reg_one 7 (m1 := (bitsA 22 249855)) rfl (by kernel_rfl) rfl (by kernel_rfl) ?_
        intro K hK
        go_simp
        refine (sum_one _ _ _ _ hp1).mono ?_
        rintro e wn ⟨rfl, hbn⟩
        clear hp1
        replace hp2 := hp2.below hbn
        replace hp3 := hp3.below hbn
        replace hW := hW.thenB hbn
        clear hbn
        refine hK _ _ ?_
        clear hK K
        refine reg_one 12 (m1 := (bitsA 22 253951)) rfl (by kernel_rfl) rfl (by kernel_rfl) ?_
        intro K hK
        go_simp
        refine (sum_one _ _ _ _ hp2).mono ?_
        rintro e wn ⟨rfl, hbn⟩
        clear hp2
        replace hp3 := hp3.below hbn
        replace hW := hW.thenB hbn
        clear hbn
        refine hK _ _ ?_
        clear hK K
        refine reg_take 13 (d := 63) (v := ?_) (listed' := (bitsA 22 262143)) rfl rfl (by kernel_rfl) (by kernel_rfl) (by kernel_rfl) (by kernel_rfl) (fun _ _ _ h => h) (by rfl) ?_ ?_
        rotate_left
        · (intro w; go_simp; try with_reducible rfl)
        simp only [List.setIfInBounds_toArray, List.set_cons_zero, List.set_cons_succ]
        refine reg_one 18 (m1 := (bitsA 22 524287)) rfl (by kernel_rfl) rfl (by kernel_rfl) ?_
        intro K hK
        go_simp
        refine (sum_one _ _ _ _ hp3).mono ?_
        rintro e wn ⟨rfl, hbn⟩
        clear hp3
        replace hW := hW.thenB hbn
        clear hbn
        refine hK _ _ ?_
        clear hK K
        rotate_left
        intro K hK
        go_simp
        have hp2 := PartsAt.one (hbb.kept hW) 22
        try simp only [World.size_alloc, World.size_drew] at hp2
        replace hW := hW.more (.cells #[.slice ab k cb] 22)
        refine hK _ _ ?_
        clear hK K
        refine reg_three 1 6 17 (m1 := (bitsA 22 118587)) (m2 := (bitsA 22 118649)) (m3 := (bitsA 22 249657)) rfl (by kernel_rfl) rfl rfl (by kernel_rfl) rfl rfl (by kernel_rfl) rfl (by kernel_rfl) ?_ ?_ ?_
        intro K hK
        go_simp
        have hp0 := PartsAt.one (hm.kept hW) 22
        try simp only [World.size_alloc, World.size_drew] at hp0
        replace hp2 := hp2.alloc (.cells #[.slice am k cm] 22)
        replace hW := hW.more (.cells #[.slice am k cm] 22)
        refine hK _ _ ?_
        clear hK K
        refine reg_three 2 6 17 (m1 := (bitsA 22 118591)) (m2 := (bitsA 22 118651)) (m3 := (bitsA 22 249659)) rfl (by kernel_rfl) rfl rfl (by kernel_rfl) rfl rfl (by kernel_rfl) rfl (by kernel_rfl) ?_ ?_ ?_
        intro K hK
        go_simp
        refine (sum_one _ _ _ _ hp0).mono ?_
        rintro e wn ⟨rfl, hbn⟩
        clear hp0
        replace hp2 := hp2.below hbn
        replace hW := hW.thenB hbn
        clear hbn
        refine hK _ _ ?_
        clear hK K
        refine reg_two 6 17 (m1 := (bitsA 22 118655)) (m2 := (bitsA 22 249663)) rfl (by kernel_rfl) rfl rfl (by kernel_rfl) rfl (by kernel_rfl) ?_ ?_
        intro K hK
        go_simp
        have hp1 := PartsAt.one (ha.kept hW) 22
        try simp only [World.size_alloc, World.size_drew] at hp1
        replace hp2 := hp2.alloc (.cells #[.slice aa k ca] 22)
        replace hW := hW.more (.cells #[.slice aa k ca] 22)
        refine hK _ _ ?_
        clear hK K
        refine reg_two 7 17 (m1 := (bitsA 22 118783)) (m2 := (bitsA 22 249727)) rfl (by kernel_rfl) rfl rfl (by kernel_rfl) rfl (by kernel_rfl) ?_ ?_
        intro K hK
        go_simp
        refine (sum_one _ _ _ _ hp1).mono ?_
        rintro e wn ⟨rfl, hbn⟩
        clear hp1
        replace hp2 := hp2.below hbn
        replace hW := hW.thenB hbn
        clear hbn
        refine hK _ _ ?_
        clear hK K
        refine reg_two 12 17 (m1 := (bitsA 22 122879)) (m2 := (bitsA 22 249855)) rfl (by kernel_rfl) rfl rfl (by kernel_rfl) rfl (by kernel_rfl) ?_ ?_
        intro K hK
        go_simp
        refine (sum_one _ _ _ _ hp2).mono ?_
        rintro e wn ⟨rfl, hbn⟩
        clear hp2
        replace hW := hW.thenB hbn
        clear hbn
        refine hK _ _ ?_
        clear hK K
        refine reg_take 13 (d := 63) (v := ?_) (listed' := (bitsA 22 131071)) rfl rfl (by kernel_rfl) (by kernel_rfl) (by kernel_rfl) (by kernel_rfl) (fun _ _ _ h => h) (by rfl) ?_ ?_
        rotate_left
        · (intro w; go_simp; try with_reducible rfl)
        simp only [List.setIfInBounds_toArray, List.set_cons_zero, List.set_cons_succ]
        refine reg_one 17 (m1 := (bitsA 22 262143)) rfl (by kernel_rfl) rfl (by kernel_rfl) ?_
        intro K hK
        go_simp
        have hp3 := PartsAt.one (hcc.kept hW) 22
        try simp only [World.size_alloc, World.size_drew] at hp3
        replace hW := hW.more (.cells #[.slice ac k cc] 22)
        refine hK _ _ ?_
        clear hK K
        refine reg_one 18 (m1 := (bitsA 22 524287)) rfl (by kernel_rfl) rfl (by kernel_rfl) ?_
        intro K hK
        go_simp
        refine (sum_one _ _ _ _ hp3).mono ?_
        rintro e wn ⟨rfl, hbn⟩
        clear hp3
        replace hW := hW.thenB hbn
        clear hbn
        refine hK _ _ ?_
        clear hK K
        rotate_left
        intro K hK
        go_simp
        have hp3 := PartsAt.one (hcc.kept hW) 22
        try simp only [World.size_alloc, World.size_drew] at hp3
        replace hp2 := hp2.alloc (.cells #[.slice ac k cc] 22)
        replace hW := hW.more (.cells #[.slice ac k cc] 22)
        refine hK _ _ ?_
        clear hK K
        refine reg_one 12 (m1 := (bitsA 22 253951)) rfl (by kernel_rfl) rfl (by kernel_rfl) ?_
        intro K hK
        go_simp
        refine (sum_one _ _ _ _ hp2).mono ?_
        rintro e wn ⟨rfl, hbn⟩
        clear hp2
        replace hp3 := hp3.below hbn
        replace hW := hW.thenB hbn
        clear hbn
        refine hK _ _ ?_
        clear hK K
        refine reg_take 13 (d := 63) (v := ?_) (listed' := (bitsA 22 262143)) rfl rfl (by kernel_rfl) (by kernel_rfl) (by kernel_rfl) (by kernel_rfl) (fun _ _ _ h => h) (by rfl) ?_ ?_
        rotate_left
        · (intro w; go_simp; try with_reducible rfl)
        simp only [List.setIfInBounds_toArray, List.set_cons_zero, List.set_cons_succ]
        refine reg_one 18 (m1 := (bitsA 22 524287)) rfl (by kernel_rfl) rfl (by kernel_rfl) ?_
        intro K hK
        go_simp
        refine (sum_one _ _ _ _ hp3).mono ?_
        rintro e wn ⟨rfl, hbn⟩
        clear hp3
        replace hW := hW.thenB hbn
        clear hbn
        refine hK _ _ ?_
        clear hK K
        rotate_left
        intro K hK
        go_simp
        have hp3 := PartsAt.one (hcc.kept hW) 22
        try simp only [World.size_alloc, World.size_drew] at hp3
        replace hp1 := hp1.alloc (.cells #[.slice ac k cc] 22)
        replace hp2 := hp2.alloc (.cells #[.slice ac k cc] 22)
        replace hW := hW.more (.cells #[.slice ac k cc] 22)
        refine hK _ _ ?_
        clear hK K
        refine reg_one 7 (m1 := (bitsA 22 249855)) rfl (by kernel_rfl) rfl (by kernel_rfl) ?_
        intro K hK
        go_simp
        refine (sum_one _ _ _ _ hp1).mono ?_
        rintro e wn ⟨rfl, hbn⟩
        clear hp1
        replace hp2 := hp2.below hbn
        replace hp3 := hp3.below hbn
        replace hW := hW.thenB hbn
        clear hbn
        refine hK _ _ ?_
        clear hK K
        refine reg_one 12 (m1 := (bitsA 22 253951)) rfl (by kernel_rfl) rfl (by kernel_rfl) ?_
        intro K hK
        go_simp
        refine (sum_one _ _ _ _ hp2).mono ?_
        rintro e wn ⟨rfl, hbn⟩
        clear hp2
        replace hp3 := hp3.below hbn
        replace hW := hW.thenB hbn
        clear hbn
        refine hK _ _ ?_
        clear hK K
        refine reg_take 13 (d := 63) (v := ?_) (listed' := (bitsA 22 262143)) rfl rfl (by kernel_rfl) (by kernel_rfl) (by kernel_rfl) (by kernel_rfl) (fun _ _ _ h => h) (by rfl) ?_ ?_
        rotate_left
        · (intro w; go_simp; try with_reducible rfl)
        simp only [List.setIfInBounds_toArray, List.set_cons_zero, List.set_cons_succ]
        refine reg_one 18 (m1 := (bitsA 22 524287)) rfl (by kernel_rfl) rfl (by kernel_rfl) ?_
        intro K hK
        go_simp
        refine (sum_one _ _ _ _ hp3).mono ?_
        rintro e wn ⟨rfl, hbn⟩
        clear hp3
        replace hW := hW.thenB hbn
        clear hbn
        refine hK _ _ ?_
        clear hK K
        rotate_left
        intro K hK
        go_simp
        have hp3 := PartsAt.one (hcc.kept hW) 22
        try simp only [World.size_alloc, World.size_drew] at hp3
        replace hp2 := hp2.alloc (.cells #[.slice ac k cc] 22)
        replace hW := hW.more (.cells #[.slice ac k cc] 22)
        refine hK _ _ ?_
        clear hK K
        refine reg_one 6 (m1 := (bitsA 22 249727)) rfl (by kernel_rfl) rfl (by kernel_rfl) ?_
        intro K hK
        go_simp
        have hp1 := PartsAt.one (ha.kept hW) 22
        try simp only [World.size_alloc, World.size_drew] at hp1
        replace hp2 := hp2.alloc (.cells #[.slice aa k ca] 22)
        replace hp3 := hp3.alloc (.cells #[.slice aa k ca] 22)
        replace hW := hW.more (.cells #[.slice aa k ca] 22)
        refine hK _ _ ?_
        clear hK K
        refine reg_one 7 (m1 := (bitsA 22 249855)) rfl (by kernel_rfl) rfl (by kernel_rfl) ?_
        intro K hK
        go_simp
        refine (sum_one _ _ _ _ hp1).mono ?_
        rintro e wn ⟨rfl, hbn⟩
        clear hp1
        replace hp2 := hp2.below hbn
        replace hp3 := hp3.below hbn
        replace hW := hW.thenB hbn
        clear hbn
        refine hK _ _ ?_
        clear hK K
        refine reg_one 12 (m1 := (bitsA 22 253951)) rfl (by kernel_rfl) rfl (by kernel_rfl) ?_
        intro K hK
        go_simp
        refine (sum_one _ _ _ _ hp2).mono ?_
        rintro e wn ⟨rfl, hbn⟩
        clear hp2
        replace hp3 := hp3.below hbn
        replace hW := hW.thenB hbn
        clear hbn
        refine hK _ _ ?_
        clear hK K
        refine reg_take 13 (d := 63) (v := ?_) (listed' := (bitsA 22 262143)) rfl rfl (by kernel_rfl) (by kernel_rfl) (by kernel_rfl) (by kernel_rfl) (fun _ _ _ h => h) (by rfl) ?_ ?_
        rotate_left
        · (intro w; go_simp; try with_reducible rfl)
        simp only [List.setIfInBounds_toArray, List.set_cons_zero, List.set_cons_succ]
        refine reg_one 18 (m1 := (bitsA 22 524287)) rfl (by kernel_rfl) rfl (by kernel_rfl) ?_
        intro K hK
        go_simp
        refine (sum_one _ _ _ _ hp3).mono ?_
        rintro e wn ⟨rfl, hbn⟩
        clear hp3
        replace hW := hW.thenB hbn
        clear hbn
        refine hK _ _ ?_
        clear hK K
        rotate_left
        intro K hK
        go_simp
        have hp1 := PartsAt.one (ha.kept hW) 22
        try simp only [World.size_alloc, World.size_drew] at hp1
        replace hp0 := hp0.alloc (.cells #[.slice aa k ca] 22)
        replace hp2 := hp2.alloc (.cells #[.slice aa k ca] 22)
        replace hW := hW.more (.cells #[.slice aa k ca] 22)
        refine hK _ _ ?_
        clear hK K
        refine reg_two 2 17 (m1 := (bitsA 22 118655)) (m2 := (bitsA 22 249723)) rfl (by kernel_rfl) rfl rfl (by kernel_rfl) rfl (by kernel_rfl) ?_ ?_
        intro K hK
        go_simp
        refine (sum_one _ _ _ _ hp0).mono ?_
        rintro e wn ⟨rfl, hbn⟩
        clear hp0
        replace hp1 := hp1.below hbn
        replace hp2 := hp2.below hbn
        replace hW := hW.thenB hbn
        clear hbn
        refine hK _ _ ?_
        clear hK K
        refine reg_two 7 17 (m1 := (bitsA 22 118783)) (m2 := (bitsA 22 249727)) rfl (by kernel_rfl) rfl rfl (by kernel_rfl) rfl (by kernel_rfl) ?_ ?_
        intro K hK
        go_simp
        refine (sum_one _ _ _ _ hp1).mono ?_
        rintro e wn ⟨rfl, hbn⟩
        clear hp1
        replace hp2 := hp2.below hbn
        replace hW := hW.thenB hbn
        clear hbn
        refine hK _ _ ?_
        clear hK K
        refine reg_two 12 17 (m1 := (bitsA 22 122879)) (m2 := (bitsA 22 249855)) rfl (by kernel_rfl) rfl rfl (by kernel_rfl) rfl (by kernel_rfl) ?_ ?_
        intro K hK
        go_simp
        refine (sum_one _ _ _ _ hp2).mono ?_
        rintro e wn ⟨rfl, hbn⟩
        clear hp2
        replace hW := hW.thenB hbn
        clear hbn
        refine hK _ _ ?_
        clear hK K
        refine reg_take 13 (d := 63) (v := ?_) (listed' := (bitsA 22 131071)) rfl rfl (by kernel_rfl) (by kernel_rfl) (by kernel_rfl) (by kernel_rfl) (fun _ _ _ h => h) (by rfl) ?_ ?_
        rotate_left
        · (intro w; go_simp; try with_reducible rfl)
        simp only [List.setIfInBounds_toArray, List.set_cons_zero, List.set_cons_succ]
        refine reg_one 17 (m1 := (bitsA 22 262143)) rfl (by kernel_rfl) rfl (by kernel_rfl) ?_
        intro K hK
        go_simp
        have hp3 := PartsAt.one (hcc.kept hW) 22
        try simp only [World.size_alloc, World.size_drew] at hp3
        replace hW := hW.more (.cells #[.slice ac k cc] 22)
        refine hK _ _ ?_
        clear hK K
        refine reg_one 18 (m1 := (bitsA 22 524287)) rfl (by kernel_rfl) rfl (by kernel_rfl) ?_
        intro K hK
        go_simp
        refine (sum_one _ _ _ _ hp3).mono ?_
        rintro e wn ⟨rfl, hbn⟩
        clear hp3
        replace hW := hW.thenB hbn
        clear hbn
        refine hK _ _ ?_
        clear hK K
        rotate_left
        intro K hK
        go_simp
        have hp3 := PartsAt.one (hcc.kept hW) 22
        try simp only [World.size_alloc, World.size_drew] at hp3
        replace hp2 := hp2.alloc (.cells #[.slice ac k cc] 22)
        replace hW := hW.more (.cells #[.slice ac k cc] 22)
        refine hK _ _ ?_
        clear hK K
        refine reg_one 12 (m1 := (bitsA 22 253951)) rfl (by kernel_rfl) rfl (by kernel_rfl) ?_
        intro K hK
        go_simp
        refine (sum_one _ _ _ _ hp2).mono ?_
        rintro e wn ⟨rfl, hbn⟩
        clear hp2
        replace hp3 := hp3.below hbn
        replace hW := hW.thenB hbn
        clear hbn
        refine hK _ _ ?_
        clear hK K
        refine reg_take 13 (d := 63) (v := ?_) (listed' := (bitsA 22 262143)) rfl rfl (by kernel_rfl) (by kernel_rfl) (by kernel_rfl) (by kernel_rfl) (fun _ _ _ h => h) (by rfl) ?_ ?_
        rotate_left
        · (intro w; go_simp; try with_reducible rfl)
        simp only [List.setIfInBounds_toArray, List.set_cons_zero, List.set_cons_succ]
        refine reg_one 18 (m1 := (bitsA 22 524287)) rfl (by kernel_rfl) rfl (by kernel_rfl) ?_
        intro K hK
        go_simp
        refine (sum_one _ _ _ _ hp3).mono ?_
        rintro e wn ⟨rfl, hbn⟩
        clear hp3
        replace hW := hW.thenB hbn
        clear hbn
        refine hK _ _ ?_
        clear hK K
        rotate_left
        intro K hK
        go_simp
        have hp3 := PartsAt.one (hcc.kept hW) 22
        try simp only [World.size_alloc, World.size_drew] at hp3
        replace hp1 := hp1.alloc (.cells #[.slice ac k cc] 22)
        replace hp2 := hp2.alloc (.cells #[.slice ac k cc] 22)
        replace hW := hW.more (.cells #[.slice ac k cc] 22)
        refine hK _ _ ?_
        clear hK K
        refine reg_one 7 (m1 := (bitsA 22 249855)) rfl (by kernel_rfl) rfl (by kernel_rfl) ?_
        intro K hK
        go_simp
        refine (sum_one _ _ _ _ hp1).mono ?_
        rintro e wn ⟨rfl, hbn⟩
        clear hp1
        replace hp2 := hp2.below hbn
        replace hp3 := hp3.below hbn
        replace hW := hW.thenB hbn
        clear hbn
        refine hK _ _ ?_
        clear hK K
        refine reg_one 12 (m1 := (bitsA 22 253951)) rfl (by kernel_rfl) rfl (by kernel_rfl) ?_
        intro K hK
        go_simp
        refine (sum_one _ _ _ _ hp2).mono ?_
        rintro e wn ⟨rfl, hbn⟩
        clear hp2
        replace hp3 := hp3.below hbn
        replace hW := hW.thenB hbn
        clear hbn
        refine hK _ _ ?_
        clear hK K
        refine reg_take 13 (d := 63) (v := ?_) (listed' := (bitsA 22 262143)) rfl rfl (by kernel_rfl) (by kernel_rfl) (by kernel_rfl) (by kernel_rfl) (fun _ _ _ h => h) (by rfl) ?_ ?_
        rotate_left
        · (intro w; go_simp; try with_reducible rfl)
        simp only [List.setIfInBounds_toArray, List.set_cons_zero, List.set_cons_succ]
        refine reg_one 18 (m1 := (bitsA 22 524287)) rfl (by kernel_rfl) rfl (by kernel_rfl) ?_
        intro K hK
        go_simp
        refine (sum_one _ _ _ _ hp3).mono ?_
        rintro e wn ⟨rfl, hbn⟩
        clear hp3
        replace hW := hW.thenB hbn
        clear hbn
        refine hK _ _ ?_
        clear hK K
        rotate_left
        intro K hK
        go_simp
        have hp3 := PartsAt.one (hcc.kept hW) 22
        try simp only [World.size_alloc, World.size_drew] at hp3
        replace hp0 := hp0.alloc (.cells #[.slice ac k cc] 22)
        replace hp1 := hp1.alloc (.cells #[.slice ac k cc] 22)
        replace hp2 := hp2.alloc (.cells #[.slice ac k cc] 22)
        replace hW := hW.more (.cells #[.slice ac k cc] 22)
        refine hK _ _ ?_
        clear hK K
        refine reg_one 2 (m1 := (bitsA 22 249727)) rfl (by kernel_rfl) rfl (by kernel_rfl) ?_
        intro K hK
        go_simp
        refine (sum_one _ _ _ _ hp0).mono ?_
        rintro e wn ⟨rfl, hbn⟩
        clear hp0
        replace hp1 := hp1.below hbn
        replace hp2 := hp2.below hbn
        replace hp3 := hp3.below hbn
        replace hW := hW.thenB hbn
        clear hbn
        refine hK _ _ ?_
        clear hK K
        refine reg_one 7 (m1 := (bitsA 22 249855)) rfl (by kernel_rfl) rfl (by kernel_rfl) ?_
        intro K hK
        go_simp
        refine (sum_one _ _ _ _ hp1).mono ?_
        rintro e wn ⟨rfl, hbn⟩
        clear hp1
        replace hp2 := hp2.below hbn
        replace hp3 := hp3.below hbn
        replace hW := hW.thenB hbn
        clear hbn
        refine hK _ _ ?_
        clear hK K
        refine reg_one 12 (m1 := (bitsA 22 253951)) rfl (by kernel_rfl) rfl (by kernel_rfl) ?_
        intro K hK
        go_simp
        refine (sum_one _ _ _ _ hp2).mono ?_
        rintro e wn ⟨rfl, hbn⟩
        clear hp2
        replace hp3 := hp3.below hbn
        replace hW := hW.thenB hbn
        clear hbn
        refine hK _ _ ?_
        clear hK K
        refine reg_take 13 (d := 63) (v := ?_) (listed' := (bitsA 22 262143)) rfl rfl (by kernel_rfl) (by kernel_rfl) (by kernel_rfl) (by kernel_rfl) (fun _ _ _ h => h) (by rfl) ?_ ?_
        rotate_left
        · (intro w; go_simp; try with_reducible rfl)
        simp only [List.setIfInBounds_toArray, List.set_cons_zero, List.set_cons_succ]
        refine reg_one 18 (m1 := (bitsA 22 524287)) rfl (by kernel_rfl) rfl (by kernel_rfl) ?_
        intro K hK
        go_simp
        refine (sum_one _ _ _ _ hp3).mono ?_
        rintro e wn ⟨rfl, hbn⟩
        clear hp3
        replace hW := hW.thenB hbn
        clear hbn
        refine hK _ _ ?_
        clear hK K
        rotate_left
        intro K hK
        go_simp
        have hp3 := PartsAt.one (hcc.kept hW) 22
        try simp only [World.size_alloc, World.size_drew] at hp3
        replace hp0 := hp0.alloc (.cells #[.slice ac k cc] 22)
        replace hp2 := hp2.alloc (.cells #[.slice ac k cc] 22)
        replace hW := hW.more (.cells #[.slice ac k cc] 22)
        refine hK _ _ ?_
        clear hK K
        refine reg_two 2 6 (m1 := (bitsA 22 249663)) (m2 := (bitsA 22 249723)) rfl (by kernel_rfl) rfl rfl (by kernel_rfl) rfl (by kernel_rfl) ?_ ?_
        intro K hK
        go_simp
        refine (sum_one _ _ _ _ hp0).mono ?_
        rintro e wn ⟨rfl, hbn⟩
        clear hp0
        replace hp2 := hp2.below hbn
        replace hp3 := hp3.below hbn
        replace hW := hW.thenB hbn
        clear hbn
        refine hK _ _ ?_
        clear hK K
        refine reg_one 6 (m1 := (bitsA 22 249727)) rfl (by kernel_rfl) rfl (by kernel_rfl) ?_
        intro K hK
        go_simp
        have hp1 := PartsAt.one (ha.kept hW) 22
        try simp only [World.size_alloc, World.size_drew] at hp1
        replace hp2 := hp2.alloc (.cells #[.slice aa k ca] 22)
        replace hp3 := hp3.alloc (.cells #[.slice aa k ca] 22)
        replace hW := hW.more (.cells #[.slice aa k ca] 22)
        refine hK _ _ ?_
        clear hK K
        refine reg_one 7 (m1 := (bitsA 22 249855)) rfl (by kernel_rfl) rfl (by kernel_rfl) ?_
        intro K hK
        go_simp
        refine (sum_one _ _ _ _ hp1).mono ?_
        rintro e wn ⟨rfl, hbn⟩
        clear hp1
        replace hp2 := hp2.below hbn
        replace hp3 := hp3.below hbn
        replace hW := hW.thenB hbn
        clear hbn
        refine hK _ _ ?_
        clear hK K
        refine reg_one 12 (m1 := (bitsA 22 253951)) rfl (by kernel_rfl) rfl (by kernel_rfl) ?_
        intro K hK
        go_simp
        refine (sum_one _ _ _ _ hp2).mono ?_
        rintro e wn ⟨rfl, hbn⟩
        clear hp2
        replace hp3 := hp3.below hbn
        replace hW := hW.thenB hbn
        clear hbn
        refine hK _ _ ?_
        clear hK K
        refine reg_take 13 (d := 63) (v := ?_) (listed' := (bitsA 22 262143)) rfl rfl (by kernel_rfl) (by kernel_rfl) (by kernel_rfl) (by kernel_rfl) (fun _ _ _ h => h) (by rfl) ?_ ?_
        rotate_left
        · (intro w; go_simp; try with_reducible rfl)
        simp only [List.setIfInBounds_toArray, List.set_cons_zero, List.set_cons_succ]
        refine reg_one 18 (m1 := (bitsA 22 524287)) rfl (by kernel_rfl) rfl (by kernel_rfl) ?_
        intro K hK
        go_simp
        refine (sum_one _ _ _ _ hp3).mono ?_
        rintro e wn ⟨rfl, hbn⟩
        clear hp3
        replace hW := hW.thenB hbn
        clear hbn
        refine hK _ _ ?_
        clear hK K
        rotate_left
        intro K hK
        go_simp
        have hp1 := PartsAt.one (ha.kept hW) 22
        try simp only [World.size_alloc, World.size_drew] at hp1
        replace hp0 := hp0.alloc (.cells #[.slice aa k ca] 22)
        replace hp2 := hp2.alloc (.cells #[.slice aa k ca] 22)
        replace hp3 := hp3.alloc (.cells #[.slice aa k ca] 22)
        replace hW := hW.more (.cells #[.slice aa k ca] 22)
        refine hK _ _ ?_
        clear hK K
        refine reg_one 2 (m1 := (bitsA 22 249727)) rfl (by kernel_rfl) rfl (by kernel_rfl) ?_
        intro K hK
        go_simp
        refine (sum_one _ _ _ _ hp0).mono ?_
        rintro e wn ⟨rfl, hbn⟩
        clear hp0
        replace hp1 := hp1.below hbn
        replace hp2 := hp2.below hbn
        replace hp3 := hp3.below hbn
        replace hW := hW.thenB hbn
        clear hbn
        refine hK _ _ ?_
        clear hK K
        refine reg_one 7 (m1 := (bitsA 22 249855)) rfl (by kernel_rfl) rfl (by kernel_rfl) ?_
        intro K hK
        go_simp
        refine (sum_one _ _ _ _ hp1).mono ?_
        rintro e wn ⟨rfl, hbn⟩
        clear hp1
        replace hp2 := hp2.below hbn
        replace hp3 := hp3.below hbn
        replace hW := hW.thenB hbn
        clear hbn
        refine hK _ _ ?_
        clear hK K
        refine reg_one 12 (m1 := (bitsA 22 253951)) rfl (by kernel_rfl) rfl (by kernel_rfl) ?_
        intro K hK
        go_simp
        refine (sum_one _ _ _ _ hp2).mono ?_
        rintro e wn ⟨rfl, hbn⟩
        clear hp2
        replace hp3 := hp3.below hbn
        replace hW := hW.thenB hbn
        clear hbn
        refine hK _ _ ?_
        clear hK K
        refine reg_take 13 (d := 63) (v := ?_) (listed' := (bitsA 22 262143)) rfl rfl (by kernel_rfl) (by kernel_rfl) (by kernel_rfl) (by kernel_rfl) (fun _ _ _ h => h) (by rfl) ?_ ?_
        rotate_left
        · (intro w; go_simp; try with_reducible rfl)
        simp only [List.setIfInBounds_toArray, List.set_cons_zero, List.set_cons_succ]
        refine reg_one 18 (m1 := (bitsA 22 524287)) rfl (by kernel_rfl) rfl (by kernel_rfl) ?_
        intro K hK
        go_simp
        refine (sum_one _ _ _ _ hp3).mono ?_
        rintro e wn ⟨rfl, hbn⟩
        clear hp3
        replace hW := hW.thenB hbn
        clear hbn
        refine hK _ _ ?_
        clear hK K
        rotate_left
        intro K hK
        go_simp
        have hp1 := PartsAt.one (ha.kept hW) 22
        try simp only [World.size_alloc, World.size_drew] at hp1
        replace hp2 := hp2.alloc (.cells #[.slice aa k ca] 22)
        replace hW := hW.more (.cells #[.slice aa k ca] 22)
        refine hK _ _ ?_
        clear hK K
        refine reg_two 1 17 (m1 := (bitsA 22 118651)) (m2 := (bitsA 22 249721)) rfl (by kernel_rfl) rfl rfl (by kernel_rfl) rfl (by kernel_rfl) ?_ ?_
        intro K hK
        go_simp
        have hp0 := PartsAt.one (hm.kept hW) 22
        try simp only [World.size_alloc, World.size_drew] at hp0
        replace hp1 := hp1.alloc (.cells #[.slice am k cm] 22)
        replace hp2 := hp2.alloc (.cells #[.slice am k cm] 22)
        replace hW := hW.more (.cells #[.slice am k cm] 22)
        refine hK _ _ ?_
        clear hK K
        refine reg_two 2 17 (m1 := (bitsA 22 118655)) (m2 := (bitsA 22 249723)) rfl (by kernel_rfl) rfl rfl (by kernel_rfl) rfl (by kernel_rfl) ?_ ?_
        intro K hK
        go_simp
        refine (sum_one _ _ _ _ hp0).mono ?_
        rintro e wn ⟨rfl, hbn⟩
        clear hp0
        replace hp1 := hp1.below hbn
        replace hp2 := hp2.below hbn
        replace hW := hW.thenB hbn
        clear hbn
        refine hK _ _ ?_
        clear hK K
        refine reg_two 7 17 (m1 := (bitsA 22 118783)) (m2 := (bitsA 22 249727)) rfl (by kernel_rfl) rfl rfl (by kernel_rfl) rfl (by kernel_rfl) ?_ ?_
        intro K hK
        go_simp
        refine (sum_one _ _ _ _ hp1).mono ?_
        rintro e wn ⟨rfl, hbn⟩
        clear hp1
        replace hp2 := hp2.below hbn
        replace hW := hW.thenB hbn
        clear hbn
        refine hK _ _ ?_
        clear hK K
        refine reg_two 12 17 (m1 := (bitsA 22 122879)) (m2 := (bitsA 22 249855)) rfl (by kernel_rfl) rfl rfl (by kernel_rfl) rfl (by kernel_rfl) ?_ ?_
        intro K hK
        go_simp
        refine (sum_one _ _ _ _ hp2).mono ?_
        rintro e wn ⟨rfl, hbn⟩
        clear hp2
        replace hW := hW.thenB hbn
        clear hbn
        refine hK _ _ ?_
        clear hK K
        refine reg_take 13 (d := 63) (v := ?_) (listed' := (bitsA 22 131071)) rfl rfl (by kernel_rfl) (by kernel_rfl) (by kernel_rfl) (by kernel_rfl) (fun _ _ _ h => h) (by rfl) ?_ ?_
        rotate_left
        · (intro w; go_simp; try with_reducible rfl)
        simp only [List.setIfInBounds_toArray, List.set_cons_zero, List.set_cons_succ]
        refine reg_one 17 (m1 := (bitsA 22 262143)) rfl (by kernel_rfl) rfl (by kernel_rfl) ?_
        intro K hK
        go_simp
        have hp3 := PartsAt.one (hcc.kept hW) 22
        try simp only [World.size_alloc, World.size_drew] at hp3
        replace hW := hW.more (.cells #[.slice ac k cc] 22)
        refine hK _ _ ?_
        clear hK K
        refine reg_one 18 (m1 := (bitsA 22 524287)) rfl (by kernel_rfl) rfl (by kernel_rfl) ?_
        intro K hK
        go_simp
        refine (sum_one _ _ _ _ hp3).mono ?_
        rintro e wn ⟨rfl, hbn⟩
        clear hp3
        replace hW := hW.thenB hbn
        clear hbn
        refine hK _ _ ?_
        clear hK K
        rotate_left
        intro K hK
        go_simp
        have hp3 := PartsAt.one (hcc.kept hW) 22
        try simp only [World.size_alloc, World.size_drew] at hp3
        replace hp2 := hp2.alloc (.cells #[.slice ac k cc] 22)
        replace hW := hW.more (.cells #[.slice ac k cc] 22)
        refine hK _ _ ?_
        clear hK K
        refine reg_one 12 (m1 := (bitsA 22 253951)) rfl (by kernel_rfl) rfl (by kernel_rfl) ?_
        intro K hK
        go_simp
        refine (sum_one _ _ _ _ hp2).mono ?_
        rintro e wn ⟨rfl, hbn⟩
        clear hp2
        replace hp3 := hp3.below hbn
        replace hW := hW.thenB hbn
        clear hbn
        refine hK _ _ ?_
        clear hK K
        refine reg_take 13 (d := 63) (v := ?_) (listed' := (bitsA 22 262143)) rfl rfl (by kernel_rfl) (by kernel_rfl) (by kernel_rfl) (by kernel_rfl) (fun _ _ _ h => h) (by rfl) ?_ ?_
        rotate_left
        · (intro w; go_simp; try with_reducible rfl)
        simp only [List.setIfInBounds_toArray, List.set_cons_zero, List.set_cons_succ]
        refine reg_one 18 (m1 := (bitsA 22 524287)) rfl (by kernel_rfl) rfl (by kernel_rfl) ?_
        intro K hK
        go_simp
        refine (sum_one _ _ _ _ hp3).mono ?_
        rintro e wn ⟨rfl, hbn⟩
        clear hp3
        replace hW := hW.thenB hbn
        clear hbn
        refine hK _ _ ?_
        clear hK K
        rotate_left
        intro K hK
        go_simp
        have hp3 := PartsAt.one (hcc.kept hW) 22
        try simp only [World.size_alloc, World.size_drew] at hp3
        replace hp1 := hp1.alloc (.cells #[.slice ac k cc] 22)
        replace hp2 := hp2.alloc (.cells #[.slice ac k cc] 22)
        replace hW := hW.more (.cells #[.slice ac k cc] 22)
        refine hK _ _ ?_
        clear hK K
        refine reg_one 7 (m1 := (bitsA 22 249855)) rfl (by kernel_rfl) rfl (by kernel_rfl) ?_
        intro K hK
        go_simp
        refine (sum_one _ _ _ _ hp1).mono ?_
        rintro e wn ⟨rfl, hbn⟩
        clear hp1
        replace hp2 := hp2.below hbn
        replace hp3 := hp3.below hbn
        replace hW := hW.thenB hbn
        clear hbn
        refine hK _ _ ?_
        clear hK K
        refine reg_one 12 (m1 := (bitsA 22 253951)) rfl (by kernel_rfl) rfl (by kernel_rfl) ?_
        intro K hK
        go_simp
        refine (sum_one _ _ _ _ hp2).mono ?_
        rintro e wn ⟨rfl, hbn⟩
        clear hp2
        replace hp3 := hp3.below hbn
        replace hW := hW.thenB hbn
        clear hbn
        refine hK _ _ ?_
        clear hK K
        refine reg_take 13 (d := 63) (v := ?_) (listed' := (bitsA 22 262143)) rfl rfl (by kernel_rfl) (by kernel_rfl) (by kernel_rfl) (by kernel_rfl) (fun _ _ _ h => h) (by rfl) ?_ ?_
        rotate_left
        · (intro w; go_simp; try with_reducible rfl)
        simp only [List.setIfInBounds_toArray, List.set_cons_zero, List.set_cons_succ]
        refine reg_one 18 (m1 := (bitsA 22 524287)) rfl (by kernel_rfl) rfl (by kernel_rfl) ?_
        intro K hK
        go_simp
        refine (sum_one _ _ _ _ hp3).mono ?_
        rintro e wn ⟨rfl, hbn⟩
        clear hp3
        replace hW := hW.thenB hbn
        clear hbn
        refine hK _ _ ?_
        clear hK K
        rotate_left
        intro K hK
        go_simp
        have hp3 := PartsAt.one (hcc.kept hW) 22
        try simp only [World.size_alloc, World.size_drew] at hp3
        replace hp0 := hp0.alloc (.cells #[.slice ac k cc] 22)
        replace hp1 := hp1.alloc (.cells #[.slice ac k cc] 22)
        replace hp2 := hp2.alloc (.cells #[.slice ac k cc] 22)
        replace hW := hW.more (.cells #[.slice ac k cc] 22)
        refine hK _ _ ?_
        clear hK K
        refine reg_one 2 (m1 := (bitsA 22 249727)) rfl (by kernel_rfl) rfl (by kernel_rfl) ?_
        intro K hK
        go_simp
        refine (sum_one _ _ _ _ hp0).mono ?_
        rintro e wn ⟨rfl, hbn⟩
        clear hp0
        replace hp1 := hp1.below hbn
        replace hp2 := hp2.below hbn
        replace hp3 := hp3.below hbn
        replace hW := hW.thenB hbn
        clear hbn
        refine hK _ _ ?_
        clear hK K
        refine reg_one 7 (m1 := (bitsA 22 249855)) rfl (by kernel_rfl) rfl (by kernel_rfl) ?_
        intro K hK
        go_simp
        refine (sum_one _ _ _ _ hp1).mono ?_
        rintro e wn ⟨rfl, hbn⟩
        clear hp1
        replace hp2 := hp2.below hbn
        replace hp3 := hp3.below hbn
        replace hW := hW.thenB hbn
        clear hbn
        refine hK _ _ ?_
        clear hK K
        refine reg_one 12 (m1 := (bitsA 22 253951)) rfl (by kernel_rfl) rfl (by kernel_rfl) ?_
        intro K hK
        go_simp
        refine (sum_one _ _ _ _ hp2).mono ?_
        rintro e wn ⟨rfl, hbn⟩
        clear hp2
        replace hp3 := hp3.below hbn
        replace hW := hW.thenB hbn
        clear hbn
        refine hK _ _ ?_
        clear hK K
        refine reg_take 13 (d := 63) (v := ?_) (listed' := (bitsA 22 262143)) rfl rfl (by kernel_rfl) (by kernel_rfl) (by kernel_rfl) (by kernel_rfl) (fun _ _ _ h => h) (by rfl) ?_ ?_
        rotate_left
        · (intro w; go_simp; try with_reducible rfl)
        simp only [List.setIfInBounds_toArray, List.set_cons_zero, List.set_cons_succ]
        refine reg_one 18 (m1 := (bitsA 22 524287)) rfl (by kernel_rfl) rfl (by kernel_rfl) ?_
        intro K hK
        go_simp
        refine (sum_one _ _ _ _ hp3).mono ?_
        rintro e wn ⟨rfl, hbn⟩
        clear hp3
        replace hW := hW.thenB hbn
        clear hbn
        refine hK _ _ ?_
        clear hK K
        rotate_left
        intro K hK
        go_simp
        have hp3 := PartsAt.one (hcc.kept hW) 22
        try simp only [World.size_alloc, World.size_drew] at hp3
        replace hp1 := hp1.alloc (.cells #[.slice ac k cc] 22)
        replace hp2 := hp2.alloc (.cells #[.slice ac k cc] 22)
        replace hW := hW.more (.cells #[.slice ac k cc] 22)
        refine hK _ _ ?_
        clear hK K
        refine reg_one 1 (m1 := (bitsA 22 249723)) rfl (by kernel_rfl) rfl (by kernel_rfl) ?_
        intro K hK
        go_simp
        have hp0 := PartsAt.one (hm.kept hW) 22
        try simp only [World.size_alloc, World.size_drew] at hp0
        replace hp1 := hp1.alloc (.cells #[.slice am k cm] 22)
        replace hp2 := hp2.alloc (.cells #[.slice am k cm] 22)
        replace hp3 := hp3.alloc (.cells #[.slice am k cm] 22)
        replace hW := hW.more (.cells #[.slice am k cm] 22)
        refine hK _ _ ?_
        clear hK K
        refine reg_one 2 (m1 := (bitsA 22 249727)) rfl (by kernel_rfl) rfl (by kernel_rfl) ?_
        intro K hK
        go_simp
        refine (sum_one _ _ _ _ hp0).mono ?_
        rintro e wn ⟨rfl, hbn⟩
        clear hp0
        replace hp1 := hp1.below hbn
        replace hp2 := hp2.below hbn
        replace hp3 := hp3.below hbn
        replace hW := hW.thenB hbn
        clear hbn
        refine hK _ _ ?_
        clear hK K
        refine reg_one 7 (m1 := (bitsA 22 249855)) rfl (by kernel_rfl) rfl (by kernel_rfl) ?_
        intro K hK
        go_simp
        refine (sum_one _ _ _ _ hp1).mono ?_
        rintro e wn ⟨rfl, hbn⟩
        clear hp1
        replace hp2 := hp2.below hbn
        replace hp3 := hp3.below hbn
        replace hW := hW.thenB hbn
        clear hbn
        refine hK _ _ ?_
        clear hK K
        refine reg_one 12 (m1 := (bitsA 22 253951)) rfl (by kernel_rfl) rfl (by kernel_rfl) ?_
        intro K hK
        go_simp
        refine (sum_one _ _ _ _ hp2).mono ?_
        rintro e wn ⟨rfl, hbn⟩
        clear hp2
        replace hp3 := hp3.below hbn
        replace hW := hW.thenB hbn
        clear hbn
        refine hK _ _ ?_
        clear hK K
        refine reg_take 13 (d := 63) (v := ?_) (listed' := (bitsA 22 262143)) rfl rfl (by kernel_rfl) (by kernel_rfl) (by kernel_rfl) (by kernel_rfl) (fun _ _ _ h => h) (by rfl) ?_ ?_
        rotate_left
        · (intro w; go_simp; try with_reducible rfl)
        simp only [List.setIfInBounds_toArray, List.set_cons_zero, List.set_cons_succ]
        refine reg_one 18 (m1 := (bitsA 22 524287)) rfl (by kernel_rfl) rfl (by kernel_rfl) ?_
        intro K hK
        go_simp
        refine (sum_one _ _ _ _ hp3).mono ?_
        rintro e wn ⟨rfl, hbn⟩
        clear hp3
        replace hW := hW.thenB hbn
        clear hbn
        refine hK _ _ ?_
        clear hK K
        rotate_left
        intro K hK
        go_simp
        have hp3 := PartsAt.one (hcc.kept hW) 22
        try simp only [World.size_alloc, World.size_drew] at hp3
        replace hp2 := hp2.alloc (.cells #[.slice ac k cc] 22)
        replace hW := hW.more (.cells #[.slice ac k cc] 22)
        refine hK _ _ ?_
        clear hK K
        refine reg_two 1 6 (m1 := (bitsA 22 249659)) (m2 := (bitsA 22 249721)) rfl (by kernel_rfl) rfl rfl (by kernel_rfl) rfl (by kernel_rfl) ?_ ?_
        intro K hK
        go_simp
        have hp0 := PartsAt.one (hm.kept hW) 22
        try simp only [World.size_alloc, World.size_drew] at hp0
        replace hp2 := hp2.alloc (.cells #[.slice am k cm] 22)
        replace hp3 := hp3.alloc (.cells #[.slice am k cm] 22)
        replace hW := hW.more (.cells #[.slice am k cm] 22)
        refine hK _ _ ?_
        clear hK K
        refine reg_two 2 6 (m1 := (bitsA 22 249663)) (m2 := (bitsA 22 249723)) rfl (by kernel_rfl) rfl rfl (by kernel_rfl) rfl (by kernel_rfl) ?_ ?_
        intro K hK
        go_simp
        refine (sum_one _ _ _ _ hp0).mono ?_
        rintro e wn ⟨rfl, hbn⟩
        clear hp0
        replace hp2 := hp2.below hbn
        replace hp3 := hp3.below hbn
        replace hW := hW.thenB hbn
        clear hbn
        refine hK _ _ ?_
        clear hK K
        refine reg_one 6 (m1 := (bitsA 22 249727)) rfl (by kernel_rfl) rfl (by kernel_rfl) ?_
        intro K hK
        go_simp
        have hp1 := PartsAt.one (ha.kept hW) 22
        try simp only [World.size_alloc, World.size_drew] at hp1
        replace hp2 := hp2.alloc (.cells #[.slice aa k ca] 22)
        replace hp3 := hp3.alloc (.cells #[.slice aa k ca] 22)
        replace hW := hW.more (.cells #[.slice aa k ca] 22)
        refine hK _ _ ?_
        clear hK K
        refine reg_one 7 (m1 := (bitsA 22 249855)) rfl (by kernel_rfl) rfl (by kernel_rfl) ?_
        intro K hK
        go_simp
        refine (sum_one _ _ _ _ hp1).mono ?_
        rintro e wn ⟨rfl, hbn⟩
        clear hp1
        replace hp2 := hp2.below hbn
        replace hp3 := hp3.below hbn
        replace hW := hW.thenB hbn
        clear hbn
        refine hK _ _ ?_
        clear hK K
        refine reg_one 12 (m1 := (bitsA 22 253951)) rfl (by kernel_rfl) rfl (by kernel_rfl) ?_
        intro K hK
        go_simp
        refine (sum_one _ _ _ _ hp2).mono ?_
        rintro e wn ⟨rfl, hbn⟩
        clear hp2
        replace hp3 := hp3.below hbn
        replace hW := hW.thenB hbn
        clear hbn
        refine hK _ _ ?_
        clear hK K
        refine reg_take 13 (d := 63) (v := ?_) (listed' := (bitsA 22 262143)) rfl rfl (by kernel_rfl) (by kernel_rfl) (by kernel_rfl) (by kernel_rfl) (fun _ _ _ h => h) (by rfl) ?_ ?_
        rotate_left
        · (intro w; go_simp; try with_reducible rfl)
        simp only [List.setIfInBounds_toArray, List.set_cons_zero, List.set_cons_succ]
        refine reg_one 18 (m1 := (bitsA 22 524287)) rfl (by kernel_rfl) rfl (by kernel_rfl) ?_
        intro K hK
        go_simp
        refine (sum_one _ _ _ _ hp3).mono ?_
        rintro e wn ⟨rfl, hbn⟩
        clear hp3
        replace hW := hW.thenB hbn
        clear hbn
        refine hK _ _ ?_
        clear hK K
        rotate_left
        intro K hK
        go_simp
        have hp1 := PartsAt.one (ha.kept hW) 22
        try simp only [World.size_alloc, World.size_drew] at hp1
        replace hp0 := hp0.alloc (.cells #[.slice aa k ca] 22)
        replace hp2 := hp2.alloc (.cells #[.slice aa k ca] 22)
        replace hp3 := hp3.alloc (.cells #[.slice aa k ca] 22)
        replace hW := hW.more (.cells #[.slice aa k ca] 22)
        refine hK _ _ ?_
        clear hK K
        refine reg_one 2 (m1 := (bitsA 22 249727)) rfl (by kernel_rfl) rfl (by kernel_rfl) ?_
        intro K hK
        go_simp
        refine (sum_one _ _ _ _ hp0).mono ?_
        rintro e wn ⟨rfl, hbn⟩
        clear hp0
        replace hp1 := hp1.below hbn
        replace hp2 := hp2.below hbn
        replace hp3 := hp3.below hbn
        replace hW := hW.thenB hbn
        clear hbn
        refine hK _ _ ?_
        clear hK K
        refine reg_one 7 (m1 := (bitsA 22 249855)) rfl (by kernel_rfl) rfl (by kernel_rfl) ?_
        intro K hK
        go_simp
        refine (sum_one _ _ _ _ hp1).mono ?_
        rintro e wn ⟨rfl, hbn⟩
        clear hp1
        replace hp2 := hp2.below hbn
        replace hp3 := hp3.below hbn
        replace hW := hW.thenB hbn
        clear hbn
        refine hK _ _ ?_
        clear hK K
        refine reg_one 12 (m1 := (bitsA 22 253951)) rfl (by kernel_rfl) rfl (by kernel_rfl) ?_
        intro K hK
        go_simp
        refine (sum_one _ _ _ _ hp2).mono ?_
        rintro e wn ⟨rfl, hbn⟩
        clear hp2
        replace hp3 := hp3.below hbn
        replace hW := hW.thenB hbn
        clear hbn
        refine hK _ _ ?_
        clear hK K
        refine reg_take 13 (d := 63) (v := ?_) (listed' := (bitsA 22 262143)) rfl rfl (by kernel_rfl) (by kernel_rfl) (by kernel_rfl) (by kernel_rfl) (fun _ _ _ h => h) (by rfl) ?_ ?_
        rotate_left
        · (intro w; go_simp; try with_reducible rfl)
        simp only [List.setIfInBounds_toArray, List.set_cons_zero, List.set_cons_succ]
        refine reg_one 18 (m1 := (bitsA 22 524287)) rfl (by kernel_rfl) rfl (by kernel_rfl) ?_
        intro K hK
        go_simp
        refine (sum_one _ _ _ _ hp3).mono ?_
        rintro e wn ⟨rfl, hbn⟩
        clear hp3
        replace hW := hW.thenB hbn
        clear hbn
        refine hK _ _ ?_
        clear hK K
        rotate_left
        intro K hK
        go_simp
        have hp1 := PartsAt.one (ha.kept hW) 22
        try simp only [World.size_alloc, World.size_drew] at hp1
        replace hp2 := hp2.alloc (.cells #[.slice aa k ca] 22)
        replace hp3 := hp3.alloc (.cells #[.slice aa k ca] 22)
        replace hW := hW.more (.cells #[.slice aa k ca] 22)
        refine hK _ _ ?_
        clear hK K
        refine reg_one 1 (m1 := (bitsA 22 249723)) rfl (by kernel_rfl) rfl (by kernel_rfl) ?_
        intro K hK
        go_simp
        have hp0 := PartsAt.one (hm.kept hW) 22
        try simp only [World.size_alloc, World.size_drew] at hp0
        replace hp1 := hp1.alloc (.cells #[.slice am k cm] 22)
        replace hp2 := hp2.alloc (.cells #[.slice am k cm] 22)
        replace hp3 := hp3.alloc (.cells #[.slice am k cm] 22)
        replace hW := hW.more (.cells #[.slice am k cm] 22)
        refine hK _ _ ?_
        clear hK K
        refine reg_one 2 (m1 := (bitsA 22 249727)) rfl (by kernel_rfl) rfl (by kernel_rfl) ?_
        intro K hK
        go_simp
        refine (sum_one _ _ _ _ hp0).mono ?_
        rintro e wn ⟨rfl, hbn⟩
        clear hp0
        replace hp1 := hp1.below hbn
        replace hp2 := hp2.below hbn
        replace hp3 := hp3.below hbn
        replace hW := hW.thenB hbn
        clear hbn
        refine hK _ _ ?_
        clear hK K
        refine reg_one 7 (m1 := (bitsA 22 249855)) rfl (by kernel_rfl) rfl (by kernel_rfl) ?_
        intro K hK
        go_simp
        refine (sum_one _ _ _ _ hp1).mono ?_
        rintro e wn ⟨rfl, hbn⟩
        clear hp1
        replace hp2 := hp2.below hbn
        replace hp3 := hp3.below hbn
        replace hW := hW.thenB hbn
        clear hbn
        refine hK _ _ ?_
        clear hK K
        refine reg_one 12 (m1 := (bitsA 22 253951)) rfl (by kernel_rfl) rfl (by kernel_rfl) ?_
        intro K hK
        go_simp
        refine (sum_one _ _ _ _ hp2).mono ?_
        rintro e wn ⟨rfl, hbn⟩
        clear hp2
        replace hp3 := hp3.below hbn
        replace hW := hW.thenB hbn
        clear hbn
        refine hK _ _ ?_
        clear hK K
        refine reg_take 13 (d := 63) (v := ?_) (listed' := (bitsA 22 262143)) rfl rfl (by kernel_rfl) (by kernel_rfl) (by kernel_rfl) (by kernel_rfl) (fun _ _ _ h => h) (by rfl) ?_ ?_
        rotate_left
        · (intro w; go_simp; try with_reducible rfl)
        simp only [List.setIfInBounds_toArray, List.set_cons_zero, List.set_cons_succ]
        refine reg_one 18 (m1 := (bitsA 22 524287)) rfl (by kernel_rfl) rfl (by kernel_rfl) ?_
        intro K hK
        go_simp
        refine (sum_one _ _ _ _ hp3).mono ?_
        rintro e wn ⟨rfl, hbn⟩
        clear hp3
        replace hW := hW.thenB hbn
        clear hbn
        refine hK _ _ ?_
        clear hK K
        rotate_left
        intro K hK
        go_simp
        have hp3 := PartsAt.one (hcc.kept hW) 22
        try simp only [World.size_alloc, World.size_drew] at hp3
        replace hW := hW.more (.cells #[.slice ac k cc] 22)
        refine hK _ _ ?_
        clear hK K
        refine reg_three 1 6 11 (m1 := (bitsA 22 247611)) (m2 := (bitsA 22 247673)) (m3 := (bitsA 22 249657)) rfl (by kernel_rfl) rfl rfl (by kernel_rfl) rfl rfl (by kernel_rfl) rfl (by kernel_rfl) ?_ ?_ ?_
        intro K hK
        go_simp
        have hp0 := PartsAt.one (hm.kept hW) 22
        try simp only [World.size_alloc, World.size_drew] at hp0
        replace hp3 := hp3.alloc (.cells #[.slice am k cm] 22)
        replace hW := hW.more (.cells #[.slice am k cm] 22)
        refine hK _ _ ?_
        clear hK K
        refine reg_three 2 6 11 (m1 := (bitsA 22 247615)) (m2 := (bitsA 22 247675)) (m3 := (bitsA 22 249659)) rfl (by kernel_rfl) rfl rfl (by kernel_rfl) rfl rfl (by kernel_rfl) rfl (by kernel_rfl) ?_ ?_ ?_
        intro K hK
        go_simp
        refine (sum_one _ _ _ _ hp0).mono ?_
        rintro e wn ⟨rfl, hbn⟩
        clear hp0
        replace hp3 := hp3.below hbn
        replace hW := hW.thenB hbn
        clear hbn
        refine hK _ _ ?_
        clear hK K
        refine reg_two 6 11 (m1 := (bitsA 22 247679)) (m2 := (bitsA 22 249663)) rfl (by kernel_rfl) rfl rfl (by kernel_rfl) rfl (by kernel_rfl) ?_ ?_
        intro K hK
        go_simp
        have hp1 := PartsAt.one (ha.kept hW) 22
        try simp only [World.size_alloc, World.size_drew] at hp1
        replace hp3 := hp3.alloc (.cells #[.slice aa k ca] 22)
        replace hW := hW.more (.cells #[.slice aa k ca] 22)
        refine hK _ _ ?_
        clear hK K
        refine reg_two 7 11 (m1 := (bitsA 22 247807)) (m2 := (bitsA 22 249727)) rfl (by kernel_rfl) rfl rfl (by kernel_rfl) rfl (by kernel_rfl) ?_ ?_
        intro K hK
        go_simp
        refine (sum_one _ _ _ _ hp1).mono ?_
        rintro e wn ⟨rfl, hbn⟩
        clear hp1
        replace hp3 := hp3.below hbn
        replace hW := hW.thenB hbn
        clear hbn
        refine hK _ _ ?_
        clear hK K
        refine reg_one 11 (m1 := (bitsA 22 249855)) rfl (by kernel_rfl) rfl (by kernel_rfl) ?_
        intro K hK
        go_simp
        have hp2 := PartsAt.one (hbb.kept hW) 22
        try simp only [World.size_alloc, World.size_drew] at hp2
        replace hp3 := hp3.alloc (.cells #[.slice ab k cb] 22)
        replace hW := hW.more (.cells #[.slice ab k cb] 22)
        refine hK _ _ ?_
        clear hK K
        refine reg_one 12 (m1 := (bitsA 22 253951)) rfl (by kernel_rfl) rfl (by kernel_rfl) ?_
        intro K hK
        go_simp
        refine (sum_one _ _ _ _ hp2).mono ?_
        rintro e wn ⟨rfl, hbn⟩
        clear hp2
        replace hp3 := hp3.below hbn
        replace hW := hW.thenB hbn
        clear hbn
        refine hK _ _ ?_
        clear hK K
        refine reg_take 13 (d := 63) (v := ?_) (listed' := (bitsA 22 262143)) rfl rfl (by kernel_rfl) (by kernel_rfl) (by kernel_rfl) (by kernel_rfl) (fun _ _ _ h => h) (by rfl) ?_ ?_
        rotate_left
        · (intro w; go_simp; try with_reducible rfl)
        simp only [List.setIfInBounds_toArray, List.set_cons_zero, List.set_cons_succ]
        refine reg_one 18 (m1 := (bitsA 22 524287)) rfl (by kernel_rfl) rfl (by kernel_rfl) ?_
        intro K hK
        go_simp
        refine (sum_one _ _ _ _ hp3).mono ?_
        rintro e wn ⟨rfl, hbn⟩
        clear hp3
        replace hW := hW.thenB hbn
        clear hbn
        refine hK _ _ ?_
        clear hK K
        rotate_left
        intro K hK
        go_simp
        have hp2 := PartsAt.one (hbb.kept hW) 22
        try simp only [World.size_alloc, World.size_drew] at hp2
        replace hp1 := hp1.alloc (.cells #[.slice ab k cb] 22)
        replace hp3 := hp3.alloc (.cells #[.slice ab k cb] 22)
        replace hW := hW.more (.cells #[.slice ab k cb] 22)
        refine hK _ _ ?_
        clear hK K
        refine reg_one 7 (m1 := (bitsA 22 249855)) rfl (by kernel_rfl) rfl (by kernel_rfl) ?_
        intro K hK
        go_simp
        refine (sum_one _ _ _ _ hp1).mono ?_
        rintro e wn ⟨rfl, hbn⟩
        clear hp1
        replace hp2 := hp2.below hbn
        replace hp3 := hp3.below hbn
        replace hW := hW.thenB hbn
        clear hbn
        refine hK _ _ ?_
        clear hK K
        refine reg_one 12 (m1 := (bitsA 22 253951)) rfl (by kernel_rfl) rfl (by kernel_rfl) ?_
        intro K hK
        go_simp
        refine (sum_one _ _ _ _ hp2).mono ?_
        rintro e wn ⟨rfl, hbn⟩
        clear hp2
        replace hp3 := hp3.below hbn
        replace hW := hW.thenB hbn
        clear hbn
        refine hK _ _ ?_
        clear hK K
        refine reg_take 13 (d := 63) (v := ?_) (listed' := (bitsA 22 262143)) rfl rfl (by kernel_rfl) (by kernel_rfl) (by kernel_rfl) (by kernel_rfl) (fun _ _ _ h => h) (by rfl) ?_ ?_
        rotate_left
        · (intro w; go_simp; try with_reducible rfl)
        simp only [List.setIfInBounds_toArray, List.set_cons_zero, List.set_cons_succ]
        refine reg_one 18 (m1 := (bitsA 22 524287)) rfl (by kernel_rfl) rfl (by kernel_rfl) ?_
        intro K hK
        go_simp
        refine (sum_one _ _ _ _ hp3).mono ?_
        rintro e wn ⟨rfl, hbn⟩
        clear hp3
        replace hW := hW.thenB hbn
        clear hbn
        refine hK _ _ ?_
        clear hK K
        rotate_left
        intro K hK
        go_simp
        have hp2 := PartsAt.one (hbb.kept hW) 22
        try simp only [World.size_alloc, World.size_drew] at hp2
        replace hp3 := hp3.alloc (.cells #[.slice ab k cb] 22)
        replace hW := hW.more (.cells #[.slice ab k cb] 22)
        refine hK _ _ ?_
        clear hK K
        refine reg_one 6 (m1 := (bitsA 22 249727)) rfl (by kernel_rfl) rfl (by kernel_rfl) ?_
        intro K hK
        go_simp
        have hp1 := PartsAt.one (ha.kept hW) 22
        try simp only [World.size_alloc, World.size_drew] at hp1
        replace hp2 := hp2.alloc (.cells #[.slice aa k ca] 22)
        replace hp3 := hp3.alloc (.cells #[.slice aa k ca] 22)
        replace hW := hW.more (.cells #[.slice aa k ca] 22)
        refine hK _ _ ?_
        clear hK K
        refine reg_one 7 (m1 := (bitsA 22 249855)) rfl (by kernel_rfl) rfl (by kernel_rfl) ?_
        intro K hK
        go_simp
        refine (sum_one _ _ _ _ hp1).mono ?_
        rintro e wn ⟨rfl, hbn⟩
        clear hp1
        replace hp2 := hp2.below hbn
        replace hp3 := hp3.below hbn
        replace hW := hW.thenB hbn
        clear hbn
        refine hK _ _ ?_
        clear hK K
        refine reg_one 12 (m1 := (bitsA 22 253951)) rfl (by kernel_rfl) rfl (by kernel_rfl) ?_
        intro K hK
        go_simp
        refine (sum_one _ _ _ _ hp2).mono ?_
        rintro e wn ⟨rfl, hbn⟩
        clear hp2
        replace hp3 := hp3.below hbn
        replace hW := hW.thenB hbn
        clear hbn
        refine hK _ _ ?_
        clear hK K
        refine reg_take 13 (d := 63) (v := ?_) (listed' := (bitsA 22 262143)) rfl rfl (by kernel_rfl) (by kernel_rfl) (by kernel_rfl) (by kernel_rfl) (fun _ _ _ h => h) (by rfl) ?_ ?_
        rotate_left
        · (intro w; go_simp; try with_reducible rfl)
        simp only [List.setIfInBounds_toArray, List.set_cons_zero, List.set_cons_succ]
        refine reg_one 18 (m1 := (bitsA 22 524287)) rfl (by kernel_rfl) rfl (by kernel_rfl) ?_
        intro K hK
        go_simp
        refine (sum_one _ _ _ _ hp3).mono ?_
        rintro e wn ⟨rfl, hbn⟩
        clear hp3
        replace hW := hW.thenB hbn
        clear hbn
        refine hK _ _ ?_
        clear hK K
        rotate_left
        intro K hK
        go_simp
        have hp1 := PartsAt.one (ha.kept hW) 22
        try simp only [World.size_alloc, World.size_drew] at hp1
        replace hp0 := hp0.alloc (.cells #[.slice aa k ca] 22)
        replace hp3 := hp3.alloc (.cells #[.slice aa k ca] 22)
        replace hW := hW.more (.cells #[.slice aa k ca] 22)
        refine hK _ _ ?_
        clear hK K
        refine reg_two 2 11 (m1 := (bitsA 22 247679)) (m2 := (bitsA 22 249723)) rfl (by kernel_rfl) rfl rfl (by kernel_rfl) rfl (by kernel_rfl) ?_ ?_
        intro K hK
        go_simp
        refine (sum_one _ _ _ _ hp0).mono ?_
        rintro e wn ⟨rfl, hbn⟩
        clear hp0
        replace hp1 := hp1.below hbn
        replace hp3 := hp3.below hbn
        replace hW := hW.thenB hbn
        clear hbn
        refine hK _ _ ?_
        clear hK K
        refine reg_two 7 11 (m1 := (bitsA 22 247807)) (m2 := (bitsA 22 249727)) rfl (by kernel_rfl) rfl rfl (by kernel_rfl) rfl (by kernel_rfl) ?_ ?_
        intro K hK
        go_simp
        refine (sum_one _ _ _ _ hp1).mono ?_
        rintro e wn ⟨rfl, hbn⟩
        clear hp1
        replace hp3 := hp3.below hbn
        replace hW := hW.thenB hbn
        clear hbn
        refine hK _ _ ?_
        clear hK K
        refine reg_one 11 (m1 := (bitsA 22 249855)) rfl (by kernel_rfl) rfl (by kernel_rfl) ?_
        intro K hK
        go_simp
        have hp2 := PartsAt.one (hbb.kept hW) 22
        try simp only [World.size_alloc, World.size_drew] at hp2
        replace hp3 := hp3.alloc (.cells #[.slice ab k cb] 22)
        replace hW := hW.more (.cells #[.slice ab k cb] 22)
        refine hK _ _ ?_
        clear hK K
        refine reg_one 12 (m1 := (bitsA 22 253951)) rfl (by kernel_rfl) rfl (by kernel_rfl) ?_
        intro K hK
        go_simp
        refine (sum_one _ _ _ _ hp2).mono ?_
        rintro e wn ⟨rfl, hbn⟩
        clear hp2
        replace hp3 := hp3.below hbn
        replace hW := hW.thenB hbn
        clear hbn
        refine hK _ _ ?_
        clear hK K
        refine reg_take 13 (d := 63) (v := ?_) (listed' := (bitsA 22 262143)) rfl rfl (by kernel_rfl) (by kernel_rfl) (by kernel_rfl) (by kernel_rfl) (fun _ _ _ h => h) (by rfl) ?_ ?_
        rotate_left
        · (intro w; go_simp; try with_reducible rfl)
        simp only [List.setIfInBounds_toArray, List.set_cons_zero, List.set_cons_succ]
        refine reg_one 18 (m1 := (bitsA 22 524287)) rfl (by kernel_rfl) rfl (by kernel_rfl) ?_
        intro K hK
        go_simp
        refine (sum_one _ _ _ _ hp3).mono ?_
        rintro e wn ⟨rfl, hbn⟩
        clear hp3
        replace hW := hW.thenB hbn
        clear hbn
        refine hK _ _ ?_
        clear hK K
        rotate_left
        intro K hK
        go_simp
        have hp2 := PartsAt.one (hbb.kept hW) 22
        try simp only [World.size_alloc, World.size_drew] at hp2
        replace hp1 := hp1.alloc (.cells #[.slice ab k cb] 22)
        replace hp3 := hp3.alloc (.cells #[.slice ab k cb] 22)
        replace hW := hW.more (.cells #[.slice ab k cb] 22)
        refine hK _ _ ?_
        clear hK K
        refine reg_one 7 (m1 := (bitsA 22 249855)) rfl (by kernel_rfl) rfl (by kernel_rfl) ?_
        intro K hK
        go_simp
        refine (sum_one _ _ _ _ hp1).mono ?_
        rintro e wn ⟨rfl, hbn⟩
        clear hp1
        replace hp2 := hp2.below hbn
        replace hp3 := hp3.below hbn
        replace hW := hW.thenB hbn
        clear hbn
        refine hK _ _ ?_
        clear hK K
        refine reg_one 12 (m1 := (bitsA 22 253951)) rfl (by kernel_rfl) rfl (by kernel_rfl) ?_
        intro K hK
        go_simp
        refine (sum_one _ _ _ _ hp2).mono ?_
        rintro e wn ⟨rfl, hbn⟩
        clear hp2
        replace hp3 := hp3.below hbn
        replace hW := hW.thenB hbn
        clear hbn
        refine hK _ _ ?_
        clear hK K
        refine reg_take 13 (d := 63) (v := ?_) (listed' := (bitsA 22 262143)) rfl rfl (by kernel_rfl) (by kernel_rfl) (by kernel_rfl) (by kernel_rfl) (fun _ _ _ h => h) (by rfl) ?_ ?_
        rotate_left
        · (intro w; go_simp; try with_reducible rfl)
        simp only [List.setIfInBounds_toArray, List.set_cons_zero, List.set_cons_succ]
        refine reg_one 18 (m1 := (bitsA 22 524287)) rfl (by kernel_rfl) rfl (by kernel_rfl) ?_
        intro K hK
        go_simp
        refine (sum_one _ _ _ _ hp3).mono ?_
        rintro e wn ⟨rfl, hbn⟩
        clear hp3
        replace hW := hW.thenB hbn
        clear hbn
        refine hK _ _ ?_
        clear hK K
        rotate_left
        intro K hK
        go_simp
        have hp2 := PartsAt.one (hbb.kept hW) 22
        try simp only [World.size_alloc, World.size_drew] at hp2
        replace hp0 := hp0.alloc (.cells #[.slice ab k cb] 22)
        replace hp1 := hp1.alloc (.cells #[.slice ab k cb] 22)
        replace hp3 := hp3.alloc (.cells #[.slice ab k cb] 22)
        replace hW := hW.more (.cells #[.slice ab k cb] 22)
        refine hK _ _ ?_
        clear hK K
        refine reg_one 2 (m1 := (bitsA 22 249727)) rfl (by kernel_rfl) rfl (by kernel_rfl) ?_
        intro K hK
        go_simp
        refine (sum_one _ _ _ _ hp0).mono ?_
        rintro e wn ⟨rfl, hbn⟩
        clear hp0
        replace hp1 := hp1.below hbn
        replace hp2 := hp2.below hbn
        replace hp3 := hp3.below hbn
        replace hW := hW.thenB hbn
        clear hbn
        refine hK _ _ ?_
        clear hK K
        refine reg_one 7 (m1 := (bitsA 22 249855)) rfl (by kernel_rfl) rfl (by kernel_rfl) ?_
        intro K hK
        go_simp
        refine (sum_one _ _ _ _ hp1).mono ?_
        rintro e wn ⟨rfl, hbn⟩
        clear hp1
        replace hp2 := hp2.below hbn
        replace hp3 := hp3.below hbn
        replace hW := hW.thenB hbn
        clear hbn
        refine hK _ _ ?_
        clear hK K
        refine reg_one 12 (m1 := (bitsA 22 253951)) rfl (by kernel_rfl) rfl (by kernel_rfl) ?_
        intro K hK
        go_simp
        refine (sum_one _ _ _ _ hp2).mono ?_
        rintro e wn ⟨rfl, hbn⟩
        clear hp2
        replace hp3 := hp3.below hbn
        replace hW := hW.thenB hbn
        clear hbn
        refine hK _ _ ?_
        clear hK K
        refine reg_take 13 (d := 63) (v := ?_) (listed' := (bitsA 22 262143)) rfl rfl (by kernel_rfl) (by kernel_rfl) (by kernel_rfl) (by kernel_rfl) (fun _ _ _ h => h) (by rfl) ?_ ?_
        rotate_left
        · (intro w; go_simp; try with_reducible rfl)
        simp only [List.setIfInBounds_toArray, List.set_cons_zero, List.set_cons_succ]
        refine reg_one 18 (m1 := (bitsA 22 524287)) rfl (by kernel_rfl) rfl (by kernel_rfl) ?_
        intro K hK
        go_simp
        refine (sum_one _ _ _ _ hp3).mono ?_
        rintro e wn ⟨rfl, hbn⟩
        clear hp3
        replace hW := hW.thenB hbn
        clear hbn
        refine hK _ _ ?_
        clear hK K
        rotate_left
        intro K hK
        go_simp
        have hp2 := PartsAt.one (hbb.kept hW) 22
        try simp only [World.size_alloc, World.size_drew] at hp2
        replace hp0 := hp0.alloc (.cells #[.slice ab k cb] 22)
        replace hp3 := hp3.alloc (.cells #[.slice ab k cb] 22)
        replace hW := hW.more (.cells #[.slice ab k cb] 22)
        refine hK _ _ ?_
        clear hK K
        refine reg_two 2 6 (m1 := (bitsA 22 249663)) (m2 := (bitsA 22 249723)) rfl (by kernel_rfl) rfl rfl (by kernel_rfl) rfl (by kernel_rfl) ?_ ?_
        intro K hK
        go_simp
        refine (sum_one _ _ _ _ hp0).mono ?_
        rintro e wn ⟨rfl, hbn⟩
        clear hp0
        replace hp2 := hp2.below hbn
        replace hp3 := hp3.below hbn
        replace hW := hW.thenB hbn
        clear hbn
        refine hK _ _ ?_
        clear hK K
        refine reg_one 6 (m1 := (bitsA 22 249727)) rfl (by kernel_rfl) rfl (by kernel_rfl) ?_
        intro K hK
        go_simp
        have hp1 := PartsAt.one (ha.kept hW) 22
        try simp only [World.size_alloc, World.size_drew] at hp1
        replace hp2 := hp2.alloc (.cells #[.slice aa k ca] 22)
        replace hp3 := hp3.alloc (.cells #[.slice aa k ca] 22)
        replace hW := hW.more (.cells #[.slice aa k ca] 22)
        refine hK _ _ ?_
        clear hK K
        refine reg_one 7 (m1 := (bitsA 22 249855)) rfl (by kernel_rfl) rfl (by kernel_rfl) ?_
        intro K hK
        go_simp
        refine (sum_one _ _ _ _ hp1).mono ?_
        rintro e wn ⟨rfl, hbn⟩
        clear hp1
        replace hp2 := hp2.below hbn
        replace hp3 := hp3.below hbn
        replace hW := hW.thenB hbn
        clear hbn
        refine hK _ _ ?_
        clear hK K
        refine reg_one 12 (m1 := (bitsA 22 253951)) rfl (by kernel_rfl) rfl (by kernel_rfl) ?_
        intro K hK
        go_simp
        refine (sum_one _ _ _ _ hp2).mono ?_
        rintro e wn ⟨rfl, hbn⟩
        clear hp2
        replace hp3 := hp3.below hbn
        replace hW := hW.thenB hbn
        clear hbn
        refine hK _ _ ?_
        clear hK K
        refine reg_take 13 (d := 63) (v := ?_) (listed' := (bitsA 22 262143)) rfl rfl (by kernel_rfl) (by kernel_rfl) (by kernel_rfl) (by kernel_rfl) (fun _ _ _ h => h) (by rfl) ?_ ?_
        rotate_left
        · (intro w; go_simp; try with_reducible rfl)
        simp only [List.setIfInBounds_toArray, List.set_cons_zero, List.set_cons_succ]
        refine reg_one 18 (m1 := (bitsA 22 524287)) rfl (by kernel_rfl) rfl (by kernel_rfl) ?_
        intro K hK
        go_simp
        refine (sum_one _ _ _ _ hp3).mono ?_
        rintro e wn ⟨rfl, hbn⟩
        clear hp3
        replace hW := hW.thenB hbn
        clear hbn
        refine hK _ _ ?_
        clear hK K
        rotate_left
        intro K hK
        go_simp
        have hp1 := PartsAt.one (ha.kept hW) 22
        try simp only [World.size_alloc, World.size_drew] at hp1
        replace hp0 := hp0.alloc (.cells #[.slice aa k ca] 22)
        replace hp2 := hp2.alloc (.cells #[.slice aa k ca] 22)
        replace hp3 := hp3.alloc (.cells #[.slice aa k ca] 22)
        replace hW := hW.more (.cells #[.slice aa k ca] 22)
        refine hK _ _ ?_
        clear hK K
        refine reg_one 2 (m1 := (bitsA 22 249727)) rfl (by kernel_rfl) rfl (by kernel_rfl) ?_
        intro K hK
        go_simp
        refine (sum_one _ _ _ _ hp0).mono ?_
        rintro e wn ⟨rfl, hbn⟩
        clear hp0
        replace hp1 := hp1.below hbn
        replace hp2 := hp2.below hbn
        replace hp3 := hp3.below hbn
        replace hW := hW.thenB hbn
        clear hbn
        refine hK _ _ ?_
        clear hK K
        refine reg_one 7 (m1 := (bitsA 22 249855)) rfl (by kernel_rfl) rfl (by kernel_rfl) ?_
        intro K hK
        go_simp
        refine (sum_one _ _ _ _ hp1).mono ?_
        rintro e wn ⟨rfl, hbn⟩
        clear hp1
        replace hp2 := hp2.below hbn
        replace hp3 := hp3.below hbn
        replace hW := hW.thenB hbn
        clear hbn
        refine hK _ _ ?_
        clear hK K
        refine reg_one 12 (m1 := (bitsA 22 253951)) rfl (by kernel_rfl) rfl (by kernel_rfl) ?_
        intro K hK
        go_simp
        refine (sum_one _ _ _ _ hp2).mono ?_
        rintro e wn ⟨rfl, hbn⟩
        clear hp2
        replace hp3 := hp3.below hbn
        replace hW := hW.thenB hbn
        clear hbn
        refine hK _ _ ?_
        clear hK K
        refine reg_take 13 (d := 63) (v := ?_) (listed' := (bitsA 22 262143)) rfl rfl (by kernel_rfl) (by kernel_rfl) (by kernel_rfl) (by kernel_rfl) (fun _ _ _ h => h) (by rfl) ?_ ?_
        rotate_left
        · (intro w; go_simp; try with_reducible rfl)
        simp only [List.setIfInBounds_toArray, List.set_cons_zero, List.set_cons_succ]
        refine reg_one 18 (m1 := (bitsA 22 524287)) rfl (by kernel_rfl) rfl (by kernel_rfl) ?_
        intro K hK
        go_simp
        refine (sum_one _ _ _ _ hp3).mono ?_
        rintro e wn ⟨rfl, hbn⟩
        clear hp3
        replace hW := hW.thenB hbn
        clear hbn
        refine hK _ _ ?_
        clear hK K
        rotate_left
        intro K hK
        go_simp
        have hp1 := PartsAt.one (ha.kept hW) 22
        try simp only [World.size_alloc, World.size_drew] at hp1
        replace hp3 := hp3.alloc (.cells #[.slice aa k ca] 22)
        replace hW := hW.more (.cells #[.slice aa k ca] 22)
        refine hK _ _ ?_
        clear hK K
        refine reg_two 1 11 (m1 := (bitsA 22 247675)) (m2 := (bitsA 22 249721)) rfl (by kernel_rfl) rfl rfl (by kernel_rfl) rfl (by kernel_rfl) ?_ ?_
        intro K hK
        go_simp
        have hp0 := PartsAt.one (hm.kept hW) 22
        try simp only [World.size_alloc, World.size_drew] at hp0
        replace hp1 := hp1.alloc (.cells #[.slice am k cm] 22)
        replace hp3 := hp3.alloc (.cells #[.slice am k cm] 22)
        replace hW := hW.more (.cells #[.slice am k cm] 22)
        refine hK _ _ ?_
        clear hK K
        refine reg_two 2 11 (m1 := (bitsA 22 247679)) (m2 := (bitsA 22 249723)) rfl (by kernel_rfl) rfl rfl (by kernel_rfl) rfl (by kernel_rfl) ?_ ?_
        intro K hK
        go_simp
        refine (sum_one _ _ _ _ hp0).mono ?_
        rintro e wn ⟨rfl, hbn⟩
        clear hp0
        replace hp1 := hp1.below hbn
        replace hp3 := hp3.below hbn
        replace hW := hW.thenB hbn
        clear hbn
        refine hK _ _ ?_
        clear hK K
        refine reg_two 7 11 (m1 := (bitsA 22 247807)) (m2 := (bitsA 22 249727)) rfl (by kernel_rfl) rfl rfl (by kernel_rfl) rfl (by kernel_rfl) ?_ ?_
        intro K hK
        go_simp
        refine (sum_one _ _ _ _ hp1).mono ?_
        rintro e wn ⟨rfl, hbn⟩
        clear hp1
        replace hp3 := hp3.below hbn
        replace hW := hW.thenB hbn
        clear hbn
        refine hK _ _ ?_
        clear hK K
        refine reg_one 11 (m1 := (bitsA 22 249855)) rfl (by kernel_rfl) rfl (by kernel_rfl) ?_
        intro K hK
        go_simp
        have hp2 := PartsAt.one (hbb.kept hW) 22
        try simp only [World.size_alloc, World.size_drew] at hp2
        replace hp3 := hp3.alloc (.cells #[.slice ab k cb] 22)
        replace hW := hW.more (.cells #[.slice ab k cb] 22)
        refine hK _ _ ?_
        clear hK K
        refine reg_one 12 (m1 := (bitsA 22 253951)) rfl (by kernel_rfl) rfl (by kernel_rfl) ?_
        intro K hK
        go_simp
        refine (sum_one _ _ _ _ hp2).mono ?_
        rintro e wn ⟨rfl, hbn⟩
        clear hp2
        replace hp3 := hp3.below hbn
        replace hW := hW.thenB hbn
        clear hbn
        refine hK _ _ ?_
        clear hK K
        refine reg_take 13 (d := 63) (v := ?_) (listed' := (bitsA 22 262143)) rfl rfl (by kernel_rfl) (by kernel_rfl) (by kernel_rfl) (by kernel_rfl) (fun _ _ _ h => h) (by rfl) ?_ ?_
        rotate_left
        · (intro w; go_simp; try with_reducible rfl)
        simp only [List.setIfInBounds_toArray, List.set_cons_zero, List.set_cons_succ]
        refine reg_one 18 (m1 := (bitsA 22 524287)) rfl (by kernel_rfl) rfl (by kernel_rfl) ?_
        intro K hK
        go_simp
        refine (sum_one _ _ _ _ hp3).mono ?_
        rintro e wn ⟨rfl, hbn⟩
        clear hp3
        replace hW := hW.thenB hbn
        clear hbn
        refine hK _ _ ?_
        clear hK K
        rotate_left
        intro K hK
        go_simp
        have hp2 := PartsAt.one (hbb.kept hW) 22
        try simp only [World.size_alloc, World.size_drew] at hp2
        replace hp1 := hp1.alloc (.cells #[.slice ab k cb] 22)
        replace hp3 := hp3.alloc (.cells #[.slice ab k cb] 22)
        replace hW := hW.more (.cells #[.slice ab k cb] 22)
        refine hK _ _ ?_
        clear hK K
        refine reg_one 7 (m1 := (bitsA 22 249855)) rfl (by kernel_rfl) rfl (by kernel_rfl) ?_
        intro K hK
        go_simp
        refine (sum_one _ _ _ _ hp1).mono ?_
        rintro e wn ⟨rfl, hbn⟩
        clear hp1
        replace hp2 := hp2.below hbn
        replace hp3 := hp3.below hbn
        replace hW := hW.thenB hbn
        clear hbn
        refine hK _ _ ?_
        clear hK K
        refine reg_one 12 (m1 := (bitsA 22 253951)) rfl (by kernel_rfl) rfl (by kernel_rfl) ?_
        intro K hK
        go_simp
        refine (sum_one _ _ _ _ hp2).mono ?_
        rintro e wn ⟨rfl, hbn⟩
        clear hp2
        replace hp3 := hp3.below hbn
        replace hW := hW.thenB hbn
        clear hbn
        refine hK _ _ ?_
        clear hK K
        refine reg_take 13 (d := 63) (v := ?_) (listed' := (bitsA 22 262143)) rfl rfl (by kernel_rfl) (by kernel_rfl) (by kernel_rfl) (by kernel_rfl) (fun _ _ _ h => h) (by rfl) ?_ ?_
        rotate_left
        · (intro w; go_simp; try with_reducible rfl)
        simp only [List.setIfInBounds_toArray, List.set_cons_zero, List.set_cons_succ]
        refine reg_one 18 (m1 := (bitsA 22 524287)) rfl (by kernel_rfl) rfl (by kernel_rfl) ?_
        intro K hK
        go_simp
        refine (sum_one _ _ _ _ hp3).mono ?_
        rintro e wn ⟨rfl, hbn⟩
        clear hp3
        replace hW := hW.thenB hbn
        clear hbn
        refine hK _ _ ?_
        clear hK K
        rotate_left
        intro K hK
        go_simp
        have hp2 := PartsAt.one (hbb.kept hW) 22
        try simp only [World.size_alloc, World.size_drew] at hp2
        replace hp0 := hp0.alloc (.cells #[.slice ab k cb] 22)
        replace hp1 := hp1.alloc (.cells #[.slice ab k cb] 22)
        replace hp3 := hp3.alloc (.cells #[.slice ab k cb] 22)
        replace hW := hW.more (.cells #[.slice ab k cb] 22)
        refine hK _ _ ?_
        clear hK K
        refine reg_one 2 (m1 := (bitsA 22 249727)) rfl (by kernel_rfl) rfl (by kernel_rfl) ?_
        intro K hK
        go_simp
        refine (sum_one _ _ _ _ hp0).mono ?_
        rintro e wn ⟨rfl, hbn⟩
        clear hp0
        replace hp1 := hp1.below hbn
        replace hp2 := hp2.below hbn
        replace hp3 := hp3.below hbn
        replace hW := hW.thenB hbn
        clear hbn
        refine hK _ _ ?_
        clear hK K
        refine reg_one 7 (m1 := (bitsA 22 249855)) rfl (by kernel_rfl) rfl (by kernel_rfl) ?_
        intro K hK
        go_simp
        refine (sum_one _ _ _ _ hp1).mono ?_
        rintro e wn ⟨rfl, hbn⟩
        clear hp1
        replace hp2 := hp2.below hbn
        replace hp3 := hp3.below hbn
        replace hW := hW.thenB hbn
        clear hbn
        refine hK _ _ ?_
        clear hK K
        refine reg_one 12 (m1 := (bitsA 22 253951)) rfl (by kernel_rfl) rfl (by kernel_rfl) ?_
        intro K hK
        go_simp
        refine (sum_one _ _ _ _ hp2).mono ?_
        rintro e wn ⟨rfl, hbn⟩
        clear hp2
        replace hp3 := hp3.below hbn
        replace hW := hW.thenB hbn
        clear hbn
        refine hK _ _ ?_
        clear hK K
        refine reg_take 13 (d := 63) (v := ?_) (listed' := (bitsA 22 262143)) rfl rfl (by kernel_rfl) (by kernel_rfl) (by kernel_rfl) (by kernel_rfl) (fun _ _ _ h => h) (by rfl) ?_ ?_
        rotate_left
        · (intro w; go_simp; try with_reducible rfl)
        simp only [List.setIfInBounds_toArray, List.set_cons_zero, List.set_cons_succ]
        refine reg_one 18 (m1 := (bitsA 22 524287)) rfl (by kernel_rfl) rfl (by kernel_rfl) ?_
        intro K hK
        go_simp
        refine (sum_one _ _ _ _ hp3).mono ?_
        rintro e wn ⟨rfl, hbn⟩
        clear hp3
        replace hW := hW.thenB hbn
        clear hbn
        refine hK _ _ ?_
        clear hK K
        rotate_left
        intro K hK
        go_simp
        have hp2 := PartsAt.one (hbb.kept hW) 22
        try simp only [World.size_alloc, World.size_drew] at hp2
        replace hp1 := hp1.alloc (.cells #[.slice ab k cb] 22)
        replace hp3 := hp3.alloc (.cells #[.slice ab k cb] 22)
        replace hW := hW.more (.cells #[.slice ab k cb] 22)
        refine hK _ _ ?_
        clear hK K
        refine reg_one 1 (m1 := (bitsA 22 249723)) rfl (by kernel_rfl) rfl (by kernel_rfl) ?_
        intro K hK
        go_simp
        have hp0 := PartsAt.one (hm.kept hW) 22
        try simp only [World.size_alloc, World.size_drew] at hp0
        replace hp1 := hp1.alloc (.cells #[.slice am k cm] 22)
        replace hp2 := hp2.alloc (.cells #[.slice am k cm] 22)
        replace hp3 := hp3.alloc (.cells #[.slice am k cm] 22)
        replace hW := hW.more (.cells #[.slice am k cm] 22)
        refine hK _ _ ?_
        clear hK K
        refine reg_one 2 (m1 := (bitsA 22 249727)) rfl (by kernel_rfl) rfl (by kernel_rfl) ?_
        intro K hK
        go_simp
        refine (sum_one _ _ _ _ hp0).mono ?_
        rintro e wn ⟨rfl, hbn⟩
        clear hp0
        replace hp1 := hp1.below hbn
        replace hp2 := hp2.below hbn
        replace hp3 := hp3.below hbn
        replace hW := hW.thenB hbn
        clear hbn
        refine hK _ _ ?_
        clear hK K
        refine reg_one 7 (m1 := (bitsA 22 249855)) rfl (by kernel_rfl) rfl (by kernel_rfl) ?_
        intro K hK
        go_simp
        refine (sum_one _ _ _ _ hp1).mono ?_
        rintro e wn ⟨rfl, hbn⟩
        clear hp1
        replace hp2 := hp2.below hbn
        replace hp3 := hp3.below hbn
        replace hW := hW.thenB hbn
        clear hbn
        refine hK _ _ ?_
        clear hK K
        refine reg_one 12 (m1 := (bitsA 22 253951)) rfl (by kernel_rfl) rfl (by kernel_rfl) ?_
        intro K hK
        go_simp
        refine (sum_one _ _ _ _ hp2).mono ?_
        rintro e wn ⟨rfl, hbn⟩
        clear hp2
        replace hp3 := hp3.below hbn
        replace hW := hW.thenB hbn
        clear hbn
        refine hK _ _ ?_
        clear hK K
        refine reg_take 13 (d := 63) (v := ?_) (listed' := (bitsA 22 262143)) rfl rfl (by kernel_rfl) (by kernel_rfl) (by kernel_rfl) (by kernel_rfl) (fun _ _ _ h => h) (by rfl) ?_ ?_
        rotate_left
        · (intro w; go_simp; try with_reducible rfl)
        simp only [List.setIfInBounds_toArray, List.set_cons_zero, List.set_cons_succ]
        refine reg_one 18 (m1 := (bitsA 22 524287)) rfl (by kernel_rfl) rfl (by kernel_rfl) ?_
        intro K hK
        go_simp
        refine (sum_one _ _ _ _ hp3).mono ?_
        rintro e wn ⟨rfl, hbn⟩
        clear hp3
        replace hW := hW.thenB hbn
        clear hbn
        refine hK _ _ ?_
        clear hK K
        rotate_left
        intro K hK
        go_simp
        have hp2 := PartsAt.one (hbb.kept hW) 22
        try simp only [World.size_alloc, World.size_drew] at hp2
        replace hp3 := hp3.alloc (.cells #[.slice ab k cb] 22)
        replace hW := hW.more (.cells #[.slice ab k cb] 22)
        refine hK _ _ ?_
        clear hK K
        refine reg_two 1 6 (m1 := (bitsA 22 249659)) (m2 := (bitsA 22 249721)) rfl (by kernel_rfl) rfl rfl (by kernel_rfl) rfl (by kernel_rfl) ?_ ?_
        intro K hK
        go_simp
        have hp0 := PartsAt.one (hm.kept hW) 22
        try simp only [World.size_alloc, World.size_drew] at hp0
        replace hp2 := hp2.alloc (.cells #[.slice am k cm] 22)
        replace hp3 := hp3.alloc (.cells #[.slice am k cm] 22)
        replace hW := hW.more (.cells #[.slice am k cm] 22)
        refine hK _ _ ?_
        clear hK K
        refine reg_two 2 6 (m1 := (bitsA 22 249663)) (m2 := (bitsA 22 249723)) rfl (by kernel_rfl) rfl rfl (by kernel_rfl) rfl (by kernel_rfl) ?_ ?_
        intro K hK
        go_simp
        refine (sum_one _ _ _ _ hp0).mono ?_
        rintro e wn ⟨rfl, hbn⟩
        clear hp0
        replace hp2 := hp2.below hbn
        replace hp3 := hp3.below hbn
        replace hW := hW.thenB hbn
        clear hbn
        refine hK _ _ ?_
        clear hK K
        refine reg_one 6 (m1 := (bitsA 22 249727)) rfl (by kernel_rfl) rfl (by kernel_rfl) ?_
        intro K hK
        go_simp
        have hp1 := PartsAt.one (ha.kept hW) 22
        try simp only [World.size_alloc, World.size_drew] at hp1
        replace hp2 := hp2.alloc (.cells #[.slice aa k ca] 22)
        replace hp3 := hp3.alloc (.cells #[.slice aa k ca] 22)
        replace hW := hW.more (.cells #[.slice aa k ca] 22)
        refine hK _ _ ?_
        clear hK K
        refine reg_one 7 (m1 := (bitsA 22 249855)) rfl (by kernel_rfl) rfl (by kernel_rfl) ?_
        intro K hK
        go_simp
        refine (sum_one _ _ _ _ hp1).mono ?_
        rintro e wn ⟨rfl, hbn⟩
        clear hp1
        replace hp2 := hp2.below hbn
        replace hp3 := hp3.below hbn
        replace hW := hW.thenB hbn
        clear hbn
        refine hK _ _ ?_
        clear hK K
        refine reg_one 12 (m1 := (bitsA 22 253951)) rfl (by kernel_rfl) rfl (by kernel_rfl) ?_
        intro K hK
        go_simp
        refine (sum_one _ _ _ _ hp2).mono ?_
        rintro e wn ⟨rfl, hbn⟩
        clear hp2
        replace hp3 := hp3.below hbn
        replace hW := hW.thenB hbn
        clear hbn
        refine hK _ _ ?_
        clear hK K
        refine reg_take 13 (d := 63) (v := ?_) (listed' := (bitsA 22 262143)) rfl rfl (by kernel_rfl) (by kernel_rfl) (by kernel_rfl) (by kernel_rfl) (fun _ _ _ h => h) (by rfl) ?_ ?_
        rotate_left
        · (intro w; go_simp; try with_reducible rfl)
        simp only [List.setIfInBounds_toArray, List.set_cons_zero, List.set_cons_succ]
        refine reg_one 18 (m1 := (bitsA 22 524287)) rfl (by kernel_rfl) rfl (by kernel_rfl) ?_
        intro K hK
        go_simp
        refine (sum_one _ _ _ _ hp3).mono ?_
        rintro e wn ⟨rfl, hbn⟩
        clear hp3
        replace hW := hW.thenB hbn
        clear hbn
        refine hK _ _ ?_
        clear hK K
        rotate_left
        intro K hK
        go_simp
        have hp1 := PartsAt.one (ha.kept hW) 22
        try simp only [World.size_alloc, World.size_drew] at hp1
        replace hp0 := hp0.alloc (.cells #[.slice aa k ca] 22)
        replace hp2 := hp2.alloc (.cells #[.slice aa k ca] 22)
        replace hp3 := hp3.alloc (.cells #[.slice aa k ca] 22)
        replace hW := hW.more (.cells #[.slice aa k ca] 22)
        refine hK _ _ ?_
        clear hK K
        refine reg_one 2 (m1 := (bitsA 22 249727)) rfl (by kernel_rfl) rfl (by kernel_rfl) ?_
        intro K hK
        go_simp
        refine (sum_one _ _ _ _ hp0).mono ?_
        rintro e wn ⟨rfl, hbn⟩
        clear hp0
        replace hp1 := hp1.below hbn
        replace hp2 := hp2.below hbn
        replace hp3 := hp3.below hbn
        replace hW := hW.thenB hbn
        clear hbn
        refine hK _ _ ?_
        clear hK K
        refine reg_one 7 (m1 := (bitsA 22 249855)) rfl (by kernel_rfl) rfl (by kernel_rfl) ?_
        intro K hK
        go_simp
        refine (sum_one _ _ _ _ hp1).mono ?_
        rintro e wn ⟨rfl, hbn⟩
        clear hp1
        replace hp2 := hp2.below hbn
        replace hp3 := hp3.below hbn
        replace hW := hW.thenB hbn
        clear hbn
        refine hK _ _ ?_
        clear hK K
        refine reg_one 12 (m1 := (bitsA 22 253951)) rfl (by kernel_rfl) rfl (by kernel_rfl) ?_
        intro K hK
        go_simp
        refine (sum_one _ _ _ _ hp2).mono ?_
        rintro e wn ⟨rfl, hbn⟩
        clear hp2
        replace hp3 := hp3.below hbn
        replace hW := hW.thenB hbn
        clear hbn
        refine hK _ _ ?_
        clear hK K
        refine reg_take 13 (d := 63) (v := ?_) (listed' := (bitsA 22 262143)) rfl rfl (by kernel_rfl) (by kernel_rfl) (by kernel_rfl) (by kernel_rfl) (fun _ _ _ h => h) (by rfl) ?_ ?_
        rotate_left
        · (intro w; go_simp; try with_reducible rfl)
        simp only [List.setIfInBounds_toArray, List.set_cons_zero, List.set_cons_succ]
        refine reg_one 18 (m1 := (bitsA 22 524287)) rfl (by kernel_rfl) rfl (by kernel_rfl) ?_
        intro K hK
        go_simp
        refine (sum_one _ _ _ _ hp3).mono ?_
        rintro e wn ⟨rfl, hbn⟩
        clear hp3
        replace hW := hW.thenB hbn
        clear hbn
        refine hK _ _ ?_
        clear hK K
        rotate_left
        intro K hK
        go_simp
        have hp1 := PartsAt.one (ha.kept hW) 22
        try simp only [World.size_alloc, World.size_drew] at hp1
        replace hp2 := hp2.alloc (.cells #[.slice aa k ca] 22)
        replace hp3 := hp3.alloc (.cells #[.slice aa k ca] 22)
        replace hW := hW.more (.cells #[.slice aa k ca] 22)
        refine hK _ _ ?_
        clear hK K
        refine reg_one 1 (m1 := (bitsA 22 249723)) rfl (by kernel_rfl) rfl (by kernel_rfl) ?_
        intro K hK
        go_simp
        have hp0 := PartsAt.one (hm.kept hW) 22
        try simp only [World.size_alloc, World.size_drew] at hp0
        replace hp1 := hp1.alloc (.cells #[.slice am k cm] 22)
        replace hp2 := hp2.alloc (.cells #[.slice am k cm] 22)
        replace hp3 := hp3.alloc (.cells #[.slice am k cm] 22)
        replace hW := hW.more (.cells #[.slice am k cm] 22)
        refine hK _ _ ?_
        clear hK K
        refine reg_one 2 (m1 := (bitsA 22 249727)) rfl (by kernel_rfl) rfl (by kernel_rfl) ?_
        intro K hK
        go_simp
        refine (sum_one _ _ _ _ hp0).mono ?_
        rintro e wn ⟨rfl, hbn⟩
        clear hp0
        replace hp1 := hp1.below hbn
        replace hp2 := hp2.below hbn
        replace hp3 := hp3.below hbn
        replace hW := hW.thenB hbn
        clear hbn
        refine hK _ _ ?_
        clear hK K
        refine reg_one 7 (m1 := (bitsA 22 249855)) rfl (by kernel_rfl) rfl (by kernel_rfl) ?_
        intro K hK
        go_simp
        refine (sum_one _ _ _ _ hp1).mono ?_
        rintro e wn ⟨rfl, hbn⟩
        clear hp1
        replace hp2 := hp2.below hbn
        replace hp3 := hp3.below hbn
        replace hW := hW.thenB hbn
        clear hbn
        refine hK _ _ ?_
        clear hK K
        refine reg_one 12 (m1 := (bitsA 22 253951)) rfl (by kernel_rfl) rfl (by kernel_rfl) ?_
        intro K hK
        go_simp
        refine (sum_one _ _ _ _ hp2).mono ?_
        rintro e wn ⟨rfl, hbn⟩
        clear hp2
        replace hp3 := hp3.below hbn
        replace hW := hW.thenB hbn
        clear hbn
        refine hK _ _ ?_
        clear hK K
        refine reg_take 13 (d := 63) (v := ?_) (listed' := (bitsA 22 262143)) rfl rfl (by kernel_rfl) (by kernel_rfl) (by kernel_rfl) (by kernel_rfl) (fun _ _ _ h => h) (by rfl) ?_ ?_
        rotate_left
        · (intro w; go_simp; try with_reducible rfl)
        simp only [List.setIfInBounds_toArray, List.set_cons_zero, List.set_cons_succ]
        refine reg_one 18 (m1 := (bitsA 22 524287)) rfl (by kernel_rfl) rfl (by kernel_rfl) ?_
        intro K hK
        go_simp
        refine (sum_one _ _ _ _ hp3).mono ?_
        rintro e wn ⟨rfl, hbn⟩
        clear hp3
        replace hW := hW.thenB hbn
        clear hbn
        refine hK _ _ ?_
        clear hK K
        rotate_left
        all_goals
          refine reg_take 19 (d := 69) (v := ?_) (listed' := (bitsA 22 1048575)) rfl rfl (by kernel_rfl) (by kernel_rfl) (by kernel_rfl) (by kernel_rfl) (fun _ _ _ h => h) (by rfl) ?_ ?_
          rotate_left
          · (intro w; go_simp; try with_reducible rfl)
          simp only [List.setIfInBounds_toArray, List.set_cons_zero, List.set_cons_succ]
          refine reg_take 20 (d := 70) (v := ?_) (listed' := (bitsA 22 2097151)) rfl rfl (by kernel_rfl) (by kernel_rfl) (by kernel_rfl) (by kernel_rfl) (fun _ _ _ h => h) (by rfl) ?_ ?_
          rotate_left
          · (intro w; go_simp; try with_reducible rfl)
          simp only [List.setIfInBounds_toArray, List.set_cons_zero, List.set_cons_succ]
          refine reg_take 21 (d := 6) (v := ?_) (listed' := (bitsA 22 4194303)) rfl rfl (by kernel_rfl) (by kernel_rfl) (by kernel_rfl) (by kernel_rfl) (fun _ _ _ h => h) (by rfl) ?_ ?_
          rotate_left
          · (intro w; go_simp; try with_reducible rfl)
          simp only [List.setIfInBounds_toArray, List.set_cons_zero, List.set_cons_succ]
          refine reg_done (by kernel_rfl) ?_
        all_goals
          go_wp2
          go_ret
          exact ⟨rfl, hb2.trans (hW.b.mono hb2.size)⟩
end Go.Proofs.Ytendhldpgkdhnaa
