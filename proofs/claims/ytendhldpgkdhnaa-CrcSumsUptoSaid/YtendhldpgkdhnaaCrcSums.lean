/- The walk of almanaclaw2.CrcSums, where what comes in is of a bulk that fits. -/
import Derived.Test.YtendhldpgkdhnaaKnown2
import Derived.Test.YtendhldpgkdhnaaRCrc
namespace Go.Proofs.Ytendhldpgkdhnaa
open Go.RowKit
theorem rnum_of {s : Int} (h : (Lit.int .u32 s).wf = true) : ∃ x, s = rnum x := by
  obtain ⟨h1, h2⟩ := wf_u32_bd h
  exact ⟨BitVec.ofInt 32 s, (u32_ofInt s h1 h2).symm⟩
theorem PartsAt.keptD {w w' : World} {a : Option Addr} {n : Nat} {ls : List (List Int)} (h : PartsAt w a n ls) (hk : Kept w.drew w') : PartsAt w' a n ls :=
  PartsAt.below (w := w.drew) ⟨h.len, fun i hi => by
    obtain ⟨b, o, ai, ni, ci, e, hc, hr⟩ := h.cell i hi
    exact ⟨b, o, ai, ni, ci, e, hc, ⟨hr.len, hr.cap, hr.max, hr.cell, hr.wf, hr.void⟩⟩⟩ hk
theorem refsum_b (a : Option Addr) (n c : Nat) (l : List Int) (w : World) (h : RdAt .u8 w a n c l) :
    Calls Try.prog 15 #[.slice a n c] w fun e w' => e = .returned (.int .u32 (rnum (sumB l))) ∧ Below w.heap.size w w' :=
  (refsum_any a n c l w h).mono fun _ _ ⟨h1, h2⟩ => ⟨h1, h2 ▸ Below.refl _ _⟩
theorem flat_len (ls : List (List Int)) (k : Nat) (h : k < ls.length) : (ls.take (k + 1)).flatten.length = (ls.take k).flatten.length + (ls.getD k []).length := by
  rw [flat_take ls k h, List.length_append]
theorem flat_le (ls : List (List Int)) (k : Nat) : (ls.take k).flatten.length ≤ ls.flatten.length := by
  conv => rhs; rw [← List.take_append_drop k ls, List.flatten_append, List.length_append]
  omega
set_option linter.unusedSimpArgs false in
set_option linter.unusedVariables false in
set_option maxRecDepth 100000 in
set_option maxHeartbeats 4000000 in
theorem sums_in (a : Option Addr) (n c : Nat) (ls : List (List Int)) (ab : Option Addr) (nb cb : Nat) (lb : List Int) (bit : Int) (p : BitVec 32) (w : World) (hP : PartsAt w a n ls) (hbb : RdAt .u8 w ab nb cb lb)
    (hsum : ls.flatten.length ≤ 8192) (hn : n ≤ 1000) (h1 : nb ≤ 8192) :
    Calls Try.prog 7 #[.slice a n c, .slice ab nb cb, .int .i64 bit, .int .u32 (rnum p)] w fun e w' => e = .returned (.bool true) ∧ Below w.heap.size w w' := by
  have hn9 : n ≤ 1000000000 := by omega
  have HLs := Lib.hid hP.len
  go_enter Try.func7, Try.ntmps7
  go_wp2_with (go_at_call 9; refine (known2 _).mono ?_; rintro e w1 ⟨rfl, hb⟩)
  replace hP := hP.below hb
  replace hbb := hbb.below hb
  go_loop [9, 10] (fun s i => ∃ k : Nat, k ≤ n ∧ i = .int .i64 k ∧ s = .int .i64 ((ls.take k).flatten.length : Nat)) (fun _ i => n - (intOf i).toNat)
  case atStart => exact ⟨0, by omega, rfl, rfl⟩
  case round =>
    obtain ⟨k, hk, rfl, rfl⟩ := hrel
    by_cases hp : k < n
    · obtain ⟨b, o, ai, ni, ci, rfl, hc, hr⟩ := hP.cell k hp
      have HF := Lib.hid (flat_len ls k (by rw [HLs.out]; exact hp))
      have HL := Lib.hid hr.len
      have hle := flat_le ls (k + 1)
      rw [HF.out, HL.out] at hle
      generalize (ls.take k).flatten.length = q at *
      go_wp2
      go_round
      case rel => exact ⟨k + 1, by omega, by go_num, by rw [HF.out, HL.out]; go_num⟩
      case measure => simp [intOf] <;> omega
    · have HK : Hid ((ls.take k).flatten.length = ls.flatten.length) := by show _ = _; rw [List.take_of_length_le (by rw [HLs.out]; omega)]
      clear hk
      rw [HK.out]
      generalize hq : ls.flatten.length = q at *
      have HQ := Lib.hid hq
      clear hq
      have hz1 : decide ((8192 : Int) < q) = false := decide_eq_false (by omega)
      have hz2 : decide ((8192 : Int) < nb) = false := decide_eq_false (by omega)
      have hz3 : decide ((1000 : Int) < n) = false := decide_eq_false (by omega)
      go_wp2
      go_loopw [11, 12] (fun v i wr => ∃ k : Nat, k ≤ n ∧ i = .int .i64 k ∧ Owns .u8 5 wr w1.heap.size v (ls.take k).flatten ∧ Below w1.heap.size w1 wr) (fun _ i _ => n - (intOf i).toNat)
      case atStart => exact ⟨0, by omega, rfl, Owns.nil _ _ _ _, Below.refl _ _⟩
      case round =>
        obtain ⟨k2, hk2, rfl, ho, hbw⟩ := hrel
        by_cases hp2 : k2 < n
        · have hP2 := hP.below hbw
          obtain ⟨b, o, ai, ni, ci, rfl, hc, hr⟩ := hP2.cell k2 hp2
          have HF := Lib.hid (flat_take ls k2 (by rw [HLs.out]; exact hp2))
          have HLe := Lib.hid (flat_le ls k2)
          have HL := Lib.hid hr.len
          have hle2 := flat_le ls (k2 + 1)
          rw [flat_len ls k2 (by rw [HLs.out]; exact hp2), HL.out, HQ.out] at hle2
          have HLE2 := Lib.hid hle2
          clear hle2
          generalize ls.getD k2 [] = li at *
          have hsz := hbw.size
          generalize (ls.take k2).flatten = M at *
          obtain ⟨av, cv, rfl⟩ := ho.shape
          go_wp2_with (at_builtin; refine app_all u8T u8I (by decide) rfl (.tmp 50) (.tmp 54) rfl _ w1.heap.size _ M rfl ho _ _ _ li rfl hr ?_ hsz ?_; have := HLE2.out; omega; intro x2 w2 ho2 hg2)
          go_roundw
          case rel => exact ⟨k2 + 1, by omega, by go_num, by rw [HF.out]; exact ho2, hbw.trans (hg2.below hsz (fun g hg => (ho.at_base g hg).1))⟩
          case measure => simp [intOf] <;> omega
        · have HK2 : Hid ((ls.take k2).flatten = ls.flatten) := by show _ = _; rw [List.take_of_length_le (by rw [HLs.out]; omega)]
          clear hk2
          rw [HK2.out] at ho
          obtain ⟨av, cv, rfl⟩ := ho.shapeN q HQ.out
          replace hP := hP.below hbw
          replace hbb := hbb.below hbw
          replace hb := hb.trans (hbw.mono hb.size)
          have hall := ho.rd
          clear ho hbw
          go_wp2_with fail
          refine (open_any _ _ _ _ _ hbb (by omega)).mono ?_
          rintro e w3 ⟨vx, rfl, hox, hb3⟩
          obtain ⟨ax, cx, rfl⟩ := hox.shape
          replace hP := hP.below hb3
          replace hbb := hbb.below hb3
          replace hall := hall.below hb3
          replace hb := hb.trans (hb3.mono hb.size)
          have hx := hox.rd
          clear hox hb3
          go_wp2_with fail
          refine (refopen_any _ _ _ _ _ hbb (by omega)).mono ?_
          rintro e w4 ⟨vy, rfl, hoy, hb4⟩
          obtain ⟨ay, cy, rfl⟩ := hoy.shape
          replace hP := hP.below hb4
          replace hbb := hbb.below hb4
          replace hall := hall.below hb4
          replace hx := hx.below hb4
          replace hb := hb.trans (hb4.mono hb.size)
          have hy := hoy.rd
          clear hoy hb4
          go_wp2_with fail
          refine' reg_free (G := Kept) (pickF [eqV _, eqV _, eqV _, eqV _, eqV _, eqV _, eqV _, isBytes (sealL (ls.flatten)), eqV _, eqV _, isBytes (sealL (ls.flatten)), eqV _, eqV _, eqV _, eqV _, eqV _, eqV _, eqV _, eqV _, eqV _, eqV _, eqV _, eqV _, eqV _, eqV _, eqV _, eqV _, eqV _, eqV _, eqV _, isBytes (burstV lb bit p), eqV _, eqV _, eqV _, eqV _, isBytes (burstV lb bit p), eqV _, eqV _, eqV _, eqV _]) [66, 67, 68, 69, 70, 71, 72, 73, 74, 75, 76, 77, 78, 79, 80, 81, 82, 83, 84, 85, 86, 87, 88, 89, 90, 91, 92, 93, 94, 95, 96, 97, 98, 99, 100, 101, 102, 103, 104, 8] [[], [0], [], [2], [1, 3], [4], [5], [5, 6], [5, 7], [5], [5, 9], [5, 10], [5, 8, 11], [5, 12], [13], [14], [14, 15], [14], [14, 17], [14, 16, 18], [14, 19], [20], [21], [21], [21, 22, 23], [21, 24], [25], [26], [26], [26], [26, 27, 28, 29], [26, 30], [26], [26], [26], [26, 32, 33, 34], [26, 35], [26, 31, 36], [26, 37], [38]] [0, 1, 2, 3, 4, 5, 6, 7, 8, 9, 10, 11, 12, 13, 14, 15, 16, 17, 18, 19, 20, 21, 22, 23, 24, 25, 26, 27, 28, 29, 30, 31, 32, 33, 34, 35, 36, 37, 38, 39] (by kernel_rfl) Kept.refl Kept.trans (pick_stays ⟨eqV_stays _, eqV_stays _, eqV_stays _, eqV_stays _, eqV_stays _, eqV_stays _, eqV_stays _, isBytes_stays _, eqV_stays _, eqV_stays _, isBytes_stays _, eqV_stays _, eqV_stays _, eqV_stays _, eqV_stays _, eqV_stays _, eqV_stays _, eqV_stays _, eqV_stays _, eqV_stays _, eqV_stays _, eqV_stays _, eqV_stays _, eqV_stays _, eqV_stays _, eqV_stays _, eqV_stays _, eqV_stays _, eqV_stays _, eqV_stays _, isBytes_stays _, eqV_stays _, eqV_stays _, eqV_stays _, eqV_stays _, isBytes_stays _, eqV_stays _, eqV_stays _, eqV_stays _, eqV_stays _, trivial⟩) 105 rfl (by kernel_rfl) (by kernel_rfl) rfl rfl ?r1obl ?r1fin
          case r1obl =>
            refine And.intro ?r1o0 (And.intro ?r1o1 (And.intro ?r1o2 (And.intro ?r1o3 (And.intro ?r1o4 (And.intro ?r1o5 (And.intro ?r1o6 (And.intro ?r1o7 (And.intro ?r1o8 (And.intro ?r1o9 (And.intro ?r1o10 (And.intro ?r1o11 (And.intro ?r1o12 (And.intro ?r1o13 (And.intro ?r1o14 (And.intro ?r1o15 (And.intro ?r1o16 (And.intro ?r1o17 (And.intro ?r1o18 (And.intro ?r1o19 (And.intro ?r1o20 (And.intro ?r1o21 (And.intro ?r1o22 (And.intro ?r1o23 (And.intro ?r1o24 (And.intro ?r1o25 (And.intro ?r1o26 (And.intro ?r1o27 (And.intro ?r1o28 (And.intro ?r1o29 (And.intro ?r1o30 (And.intro ?r1o31 (And.intro ?r1o32 (And.intro ?r1o33 (And.intro ?r1o34 (And.intro ?r1o35 (And.intro ?r1o36 (And.intro ?r1o37 (And.intro ?r1o38 (And.intro ?r1o39 (True.intro))))))))))))))))))))))))))))))))))))))))
            case r1o0 =>
              intro w1 hG
              refine turn_on (by rfl) ?_
              intro K hK
              go_simp
              refine hK _ _ ⟨rfl, Kept.refl _, ?_⟩
              show _ = _
              simp only [List.getD_cons_zero, List.getD_cons_succ, Array.getD_eq_getD_getElem?, List.getElem?_toArray, List.getElem?_cons_zero, List.getElem?_cons_succ, Option.getD_some]
              rfl
            case r1o1 =>
              intro w1 hG
              intro v0 h0
              change _ = _ at h0
              subst h0
              refine turn_on (by rfl) ?_
              intro K hK
              simp only [List.getD_cons_zero, List.getD_cons_succ, List.setIfInBounds_toArray, List.set_cons_zero, List.set_cons_succ]
              go_simp
              refine Calls.mono (sum_any _ _ _ ls _ (hP.keptD hG) hn9) ?_
              rintro e w2 ⟨rfl, hbx⟩
              refine hK _ _ ⟨rfl, hbx, ?_⟩
              show _ = _
              simp only [List.getD_cons_zero, List.getD_cons_succ, Array.getD_eq_getD_getElem?, List.getElem?_toArray, List.getElem?_cons_zero, List.getElem?_cons_succ, Option.getD_some]
              rfl
            case r1o2 =>
              intro w1 hG
              refine turn_on (by rfl) ?_
              intro K hK
              go_simp
              refine hK _ _ ⟨rfl, Kept.refl _, ?_⟩
              show _ = _
              simp only [List.getD_cons_zero, List.getD_cons_succ, Array.getD_eq_getD_getElem?, List.getElem?_toArray, List.getElem?_cons_zero, List.getElem?_cons_succ, Option.getD_some]
              rfl
            case r1o3 =>
              intro w1 hG
              intro v2 h2
              change _ = _ at h2
              subst h2
              refine turn_on (by rfl) ?_
              intro K hK
              simp only [List.getD_cons_zero, List.getD_cons_succ, List.setIfInBounds_toArray, List.set_cons_zero, List.set_cons_succ]
              go_simp
              refine Calls.mono (refsum_b _ _ _ (ls.flatten) _ (hall.keptD hG)) ?_
              rintro e w2 ⟨rfl, hbx⟩
              refine hK _ _ ⟨rfl, hbx, ?_⟩
              show _ = _
              simp only [List.getD_cons_zero, List.getD_cons_succ, Array.getD_eq_getD_getElem?, List.getElem?_toArray, List.getElem?_cons_zero, List.getElem?_cons_succ, Option.getD_some]
              rfl
            case r1o4 =>
              intro w1 hG
              intro v1 h1
              change _ = _ at h1
              subst h1
              intro v3 h3
              change _ = _ at h3
              subst h3
              refine turn_on (by rfl) ?_
              intro K hK
              simp only [List.getD_cons_zero, List.getD_cons_succ, List.setIfInBounds_toArray, List.set_cons_zero, List.set_cons_succ]
              go_simp
              refine hK _ _ ⟨rfl, Kept.refl _, ?_⟩
              show _ = _
              simp only [List.getD_cons_zero, List.getD_cons_succ, Array.getD_eq_getD_getElem?, List.getElem?_toArray, List.getElem?_cons_zero, List.getElem?_cons_succ, Option.getD_some]
              rfl
            case r1o5 =>
              intro w1 hG
              intro v4 h4
              change _ = _ at h4
              subst h4
              refine turn_on (by rfl) ?_
              intro K hK
              simp only [List.getD_cons_zero, List.getD_cons_succ, List.setIfInBounds_toArray, List.set_cons_zero, List.set_cons_succ]
              go_simp
              refine hK _ _ ⟨rfl, Kept.refl _, ?_⟩
              show _ = _
              simp only [List.getD_cons_zero, List.getD_cons_succ, Array.getD_eq_getD_getElem?, List.getElem?_toArray, List.getElem?_cons_zero, List.getElem?_cons_succ, Option.getD_some]
              rfl
            case r1o6 =>
              intro w1 hG
              intro v5 h5
              change _ = _ at h5
              subst h5
              refine turn_on (by rfl) ?_
              intro K hK
              simp only [List.getD_cons_zero, List.getD_cons_succ, List.setIfInBounds_toArray, List.set_cons_zero, List.set_cons_succ]
              go_simp
              refine hK _ _ ⟨rfl, Kept.refl _, ?_⟩
              show _ = _
              simp only [List.getD_cons_zero, List.getD_cons_succ, Array.getD_eq_getD_getElem?, List.getElem?_toArray, List.getElem?_cons_zero, List.getElem?_cons_succ, Option.getD_some]
              rfl
            case r1o7 =>
              intro w1 hG
              intro v5 h5
              change _ = _ at h5
              subst h5
              intro v6 h6
              change _ = _ at h6
              subst h6
              refine turn_on (by rfl) ?_
              intro K hK
              simp only [List.getD_cons_zero, List.getD_cons_succ, List.setIfInBounds_toArray, List.set_cons_zero, List.set_cons_succ]
              go_simp
              refine Calls.mono (seal_any _ _ _ (ls.flatten) _ (hall.keptD hG) (by omega)) ?_
              rintro e w2 ⟨vv, rfl, hov, hbx⟩
              refine hK _ _ ⟨rfl, hbx, ?_⟩
              show isBytes _ _ _
              simp only [List.getD_cons_zero, List.getD_cons_succ, Array.getD_eq_getD_getElem?, List.getElem?_toArray, List.getElem?_cons_zero, List.getElem?_cons_succ, Option.getD_some]
              exact hov.isBytes
            case r1o8 =>
              intro w1 hG
              intro v5 h5
              change _ = _ at h5
              subst h5
              intro v7 h7
              obtain ⟨a7, n7, c7, rfl, h7⟩ := h7
              refine turn_on (by rfl) ?_
              intro K hK
              simp only [List.getD_cons_zero, List.getD_cons_succ, List.setIfInBounds_toArray, List.set_cons_zero, List.set_cons_succ]
              refine wp_conv 74 rfl u8T s8 su _ rfl rfl (h7) ?_
              refine hK _ _ ⟨rfl, Kept.refl _, ?_⟩
              show _ = _
              simp only [List.getD_cons_zero, List.getD_cons_succ, Array.getD_eq_getD_getElem?, List.getElem?_toArray, List.getElem?_cons_zero, List.getElem?_cons_succ, Option.getD_some]
              rfl
            case r1o9 =>
              intro w1 hG
              intro v5 h5
              change _ = _ at h5
              subst h5
              refine turn_on (by rfl) ?_
              intro K hK
              simp only [List.getD_cons_zero, List.getD_cons_succ, List.setIfInBounds_toArray, List.set_cons_zero, List.set_cons_succ]
              go_simp
              refine hK _ _ ⟨rfl, Kept.refl _, ?_⟩
              show _ = _
              simp only [List.getD_cons_zero, List.getD_cons_succ, Array.getD_eq_getD_getElem?, List.getElem?_toArray, List.getElem?_cons_zero, List.getElem?_cons_succ, Option.getD_some]
              rfl
            case r1o10 =>
              intro w1 hG
              intro v5 h5
              change _ = _ at h5
              subst h5
              intro v9 h9
              change _ = _ at h9
              subst h9
              refine turn_on (by rfl) ?_
              intro K hK
              simp only [List.getD_cons_zero, List.getD_cons_succ, List.setIfInBounds_toArray, List.set_cons_zero, List.set_cons_succ]
              go_simp
              refine Calls.mono (refseal_any _ _ _ (ls.flatten) _ (hall.keptD hG) (by omega)) ?_
              rintro e w2 ⟨vv, rfl, hov, hbx⟩
              refine hK _ _ ⟨rfl, hbx, ?_⟩
              show isBytes _ _ _
              simp only [List.getD_cons_zero, List.getD_cons_succ, Array.getD_eq_getD_getElem?, List.getElem?_toArray, List.getElem?_cons_zero, List.getElem?_cons_succ, Option.getD_some]
              exact hov.isBytes
            case r1o11 =>
              intro w1 hG
              intro v5 h5
              change _ = _ at h5
              subst h5
              intro v10 h10
              obtain ⟨a10, n10, c10, rfl, h10⟩ := h10
              refine turn_on (by rfl) ?_
              intro K hK
              simp only [List.getD_cons_zero, List.getD_cons_succ, List.setIfInBounds_toArray, List.set_cons_zero, List.set_cons_succ]
              refine wp_conv 77 rfl u8T s8 su _ rfl rfl (h10) ?_
              refine hK _ _ ⟨rfl, Kept.refl _, ?_⟩
              show _ = _
              simp only [List.getD_cons_zero, List.getD_cons_succ, Array.getD_eq_getD_getElem?, List.getElem?_toArray, List.getElem?_cons_zero, List.getElem?_cons_succ, Option.getD_some]
              rfl
            case r1o12 =>
              intro w1 hG
              intro v5 h5
              change _ = _ at h5
              subst h5
              intro v8 h8
              change _ = _ at h8
              subst h8
              intro v11 h11
              change _ = _ at h11
              subst h11
              refine turn_on (by rfl) ?_
              intro K hK
              simp only [List.getD_cons_zero, List.getD_cons_succ, List.setIfInBounds_toArray, List.set_cons_zero, List.set_cons_succ]
              go_simp
              refine hK _ _ ⟨rfl, Kept.refl _, ?_⟩
              show _ = _
              simp only [List.getD_cons_zero, List.getD_cons_succ, Array.getD_eq_getD_getElem?, List.getElem?_toArray, List.getElem?_cons_zero, List.getElem?_cons_succ, Option.getD_some]
              rfl
            case r1o13 =>
              intro w1 hG
              intro v5 h5
              change _ = _ at h5
              subst h5
              intro v12 h12
              change _ = _ at h12
              subst h12
              refine turn_on (by rfl) ?_
              intro K hK
              simp only [List.getD_cons_zero, List.getD_cons_succ, List.setIfInBounds_toArray, List.set_cons_zero, List.set_cons_succ]
              go_simp
              refine hK _ _ ⟨rfl, Kept.refl _, ?_⟩
              show _ = _
              simp only [List.getD_cons_zero, List.getD_cons_succ, Array.getD_eq_getD_getElem?, List.getElem?_toArray, List.getElem?_cons_zero, List.getElem?_cons_succ, Option.getD_some]
              rfl
            case r1o14 =>
              intro w1 hG
              intro v13 h13
              change _ = _ at h13
              subst h13
              refine turn_on (by rfl) ?_
              intro K hK
              simp only [List.getD_cons_zero, List.getD_cons_succ, List.setIfInBounds_toArray, List.set_cons_zero, List.set_cons_succ]
              go_simp
              refine hK _ _ ⟨rfl, Kept.refl _, ?_⟩
              show _ = _
              simp only [List.getD_cons_zero, List.getD_cons_succ, Array.getD_eq_getD_getElem?, List.getElem?_toArray, List.getElem?_cons_zero, List.getElem?_cons_succ, Option.getD_some]
              rfl
            case r1o15 =>
              intro w1 hG
              intro v14 h14
              change _ = _ at h14
              subst h14
              refine turn_on (by rfl) ?_
              intro K hK
              simp only [List.getD_cons_zero, List.getD_cons_succ, List.setIfInBounds_toArray, List.set_cons_zero, List.set_cons_succ]
              go_simp
              refine hK _ _ ⟨rfl, Kept.refl _, ?_⟩
              show _ = _
              simp only [List.getD_cons_zero, List.getD_cons_succ, Array.getD_eq_getD_getElem?, List.getElem?_toArray, List.getElem?_cons_zero, List.getElem?_cons_succ, Option.getD_some]
              rfl
            case r1o16 =>
              intro w1 hG
              intro v14 h14
              change _ = _ at h14
              subst h14
              intro v15 h15
              change _ = _ at h15
              subst h15
              refine turn_on (by rfl) ?_
              intro K hK
              simp only [List.getD_cons_zero, List.getD_cons_succ, List.setIfInBounds_toArray, List.set_cons_zero, List.set_cons_succ]
              refine wp_conv 82 rfl u8T s8 su _ rfl rfl (hx.keptD hG) ?_
              refine hK _ _ ⟨rfl, Kept.refl _, ?_⟩
              show _ = _
              simp only [List.getD_cons_zero, List.getD_cons_succ, Array.getD_eq_getD_getElem?, List.getElem?_toArray, List.getElem?_cons_zero, List.getElem?_cons_succ, Option.getD_some]
              rfl
            case r1o17 =>
              intro w1 hG
              intro v14 h14
              change _ = _ at h14
              subst h14
              refine turn_on (by rfl) ?_
              intro K hK
              simp only [List.getD_cons_zero, List.getD_cons_succ, List.setIfInBounds_toArray, List.set_cons_zero, List.set_cons_succ]
              go_simp
              refine hK _ _ ⟨rfl, Kept.refl _, ?_⟩
              show _ = _
              simp only [List.getD_cons_zero, List.getD_cons_succ, Array.getD_eq_getD_getElem?, List.getElem?_toArray, List.getElem?_cons_zero, List.getElem?_cons_succ, Option.getD_some]
              rfl
            case r1o18 =>
              intro w1 hG
              intro v14 h14
              change _ = _ at h14
              subst h14
              intro v17 h17
              change _ = _ at h17
              subst h17
              refine turn_on (by rfl) ?_
              intro K hK
              simp only [List.getD_cons_zero, List.getD_cons_succ, List.setIfInBounds_toArray, List.set_cons_zero, List.set_cons_succ]
              refine wp_conv 84 rfl u8T s8 su _ rfl rfl (hy.keptD hG) ?_
              refine hK _ _ ⟨rfl, Kept.refl _, ?_⟩
              show _ = _
              simp only [List.getD_cons_zero, List.getD_cons_succ, Array.getD_eq_getD_getElem?, List.getElem?_toArray, List.getElem?_cons_zero, List.getElem?_cons_succ, Option.getD_some]
              rfl
            case r1o19 =>
              intro w1 hG
              intro v14 h14
              change _ = _ at h14
              subst h14
              intro v16 h16
              change _ = _ at h16
              subst h16
              intro v18 h18
              change _ = _ at h18
              subst h18
              refine turn_on (by rfl) ?_
              intro K hK
              simp only [List.getD_cons_zero, List.getD_cons_succ, List.setIfInBounds_toArray, List.set_cons_zero, List.set_cons_succ]
              go_simp
              refine hK _ _ ⟨rfl, Kept.refl _, ?_⟩
              show _ = _
              simp only [List.getD_cons_zero, List.getD_cons_succ, Array.getD_eq_getD_getElem?, List.getElem?_toArray, List.getElem?_cons_zero, List.getElem?_cons_succ, Option.getD_some]
              rfl
            case r1o20 =>
              intro w1 hG
              intro v14 h14
              change _ = _ at h14
              subst h14
              intro v19 h19
              change _ = _ at h19
              subst h19
              refine turn_on (by rfl) ?_
              intro K hK
              simp only [List.getD_cons_zero, List.getD_cons_succ, List.setIfInBounds_toArray, List.set_cons_zero, List.set_cons_succ]
              go_simp
              refine hK _ _ ⟨rfl, Kept.refl _, ?_⟩
              show _ = _
              simp only [List.getD_cons_zero, List.getD_cons_succ, Array.getD_eq_getD_getElem?, List.getElem?_toArray, List.getElem?_cons_zero, List.getElem?_cons_succ, Option.getD_some]
              rfl
            case r1o21 =>
              intro w1 hG
              intro v20 h20
              change _ = _ at h20
              subst h20
              refine turn_on (by rfl) ?_
              intro K hK
              simp only [List.getD_cons_zero, List.getD_cons_succ, List.setIfInBounds_toArray, List.set_cons_zero, List.set_cons_succ]
              go_simp
              refine hK _ _ ⟨rfl, Kept.refl _, ?_⟩
              show _ = _
              simp only [List.getD_cons_zero, List.getD_cons_succ, Array.getD_eq_getD_getElem?, List.getElem?_toArray, List.getElem?_cons_zero, List.getElem?_cons_succ, Option.getD_some]
              rfl
            case r1o22 =>
              intro w1 hG
              intro v21 h21
              change _ = _ at h21
              subst h21
              refine turn_on (by rfl) ?_
              intro K hK
              simp only [List.getD_cons_zero, List.getD_cons_succ, List.setIfInBounds_toArray, List.set_cons_zero, List.set_cons_succ]
              go_simp
              refine hK _ _ ⟨rfl, Kept.refl _, ?_⟩
              show _ = _
              simp only [List.getD_cons_zero, List.getD_cons_succ, Array.getD_eq_getD_getElem?, List.getElem?_toArray, List.getElem?_cons_zero, List.getElem?_cons_succ, Option.getD_some]
              rfl
            case r1o23 =>
              intro w1 hG
              intro v21 h21
              change _ = _ at h21
              subst h21
              refine turn_on (by rfl) ?_
              intro K hK
              simp only [List.getD_cons_zero, List.getD_cons_succ, List.setIfInBounds_toArray, List.set_cons_zero, List.set_cons_succ]
              go_simp
              refine hK _ _ ⟨rfl, Kept.refl _, ?_⟩
              show _ = _
              simp only [List.getD_cons_zero, List.getD_cons_succ, Array.getD_eq_getD_getElem?, List.getElem?_toArray, List.getElem?_cons_zero, List.getElem?_cons_succ, Option.getD_some]
              rfl
            case r1o24 =>
              intro w1 hG
              intro v21 h21
              change _ = _ at h21
              subst h21
              intro v22 h22
              change _ = _ at h22
              subst h22
              intro v23 h23
              change _ = _ at h23
              subst h23
              refine turn_on (by rfl) ?_
              intro K hK
              simp only [List.getD_cons_zero, List.getD_cons_succ, List.setIfInBounds_toArray, List.set_cons_zero, List.set_cons_succ]
              go_simp
              refine hK _ _ ⟨rfl, Kept.refl _, ?_⟩
              show _ = _
              simp only [List.getD_cons_zero, List.getD_cons_succ, Array.getD_eq_getD_getElem?, List.getElem?_toArray, List.getElem?_cons_zero, List.getElem?_cons_succ, Option.getD_some]
              rfl
            case r1o25 =>
              intro w1 hG
              intro v21 h21
              change _ = _ at h21
              subst h21
              intro v24 h24
              change _ = _ at h24
              subst h24
              refine turn_on (by rfl) ?_
              intro K hK
              simp only [List.getD_cons_zero, List.getD_cons_succ, List.setIfInBounds_toArray, List.set_cons_zero, List.set_cons_succ]
              go_simp
              refine hK _ _ ⟨rfl, Kept.refl _, ?_⟩
              show _ = _
              simp only [List.getD_cons_zero, List.getD_cons_succ, Array.getD_eq_getD_getElem?, List.getElem?_toArray, List.getElem?_cons_zero, List.getElem?_cons_succ, Option.getD_some]
              rfl
            case r1o26 =>
              intro w1 hG
              intro v25 h25
              change _ = _ at h25
              subst h25
              refine turn_on (by rfl) ?_
              intro K hK
              simp only [List.getD_cons_zero, List.getD_cons_succ, List.setIfInBounds_toArray, List.set_cons_zero, List.set_cons_succ]
              go_simp
              refine hK _ _ ⟨rfl, Kept.refl _, ?_⟩
              show _ = _
              simp only [List.getD_cons_zero, List.getD_cons_succ, Array.getD_eq_getD_getElem?, List.getElem?_toArray, List.getElem?_cons_zero, List.getElem?_cons_succ, Option.getD_some]
              rfl
            case r1o27 =>
              intro w1 hG
              intro v26 h26
              change _ = _ at h26
              subst h26
              refine turn_on (by rfl) ?_
              intro K hK
              simp only [List.getD_cons_zero, List.getD_cons_succ, List.setIfInBounds_toArray, List.set_cons_zero, List.set_cons_succ]
              go_simp
              refine hK _ _ ⟨rfl, Kept.refl _, ?_⟩
              show _ = _
              simp only [List.getD_cons_zero, List.getD_cons_succ, Array.getD_eq_getD_getElem?, List.getElem?_toArray, List.getElem?_cons_zero, List.getElem?_cons_succ, Option.getD_some]
              rfl
            case r1o28 =>
              intro w1 hG
              intro v26 h26
              change _ = _ at h26
              subst h26
              refine turn_on (by rfl) ?_
              intro K hK
              simp only [List.getD_cons_zero, List.getD_cons_succ, List.setIfInBounds_toArray, List.set_cons_zero, List.set_cons_succ]
              go_simp
              refine hK _ _ ⟨rfl, Kept.refl _, ?_⟩
              show _ = _
              simp only [List.getD_cons_zero, List.getD_cons_succ, Array.getD_eq_getD_getElem?, List.getElem?_toArray, List.getElem?_cons_zero, List.getElem?_cons_succ, Option.getD_some]
              rfl
            case r1o29 =>
              intro w1 hG
              intro v26 h26
              change _ = _ at h26
              subst h26
              refine turn_on (by rfl) ?_
              intro K hK
              simp only [List.getD_cons_zero, List.getD_cons_succ, List.setIfInBounds_toArray, List.set_cons_zero, List.set_cons_succ]
              go_simp
              refine hK _ _ ⟨rfl, Kept.refl _, ?_⟩
              show _ = _
              simp only [List.getD_cons_zero, List.getD_cons_succ, Array.getD_eq_getD_getElem?, List.getElem?_toArray, List.getElem?_cons_zero, List.getElem?_cons_succ, Option.getD_some]
              rfl
            case r1o30 =>
              intro w1 hG
              intro v26 h26
              change _ = _ at h26
              subst h26
              intro v27 h27
              change _ = _ at h27
              subst h27
              intro v28 h28
              change _ = _ at h28
              subst h28
              intro v29 h29
              change _ = _ at h29
              subst h29
              refine turn_on (by rfl) ?_
              intro K hK
              simp only [List.getD_cons_zero, List.getD_cons_succ, List.setIfInBounds_toArray, List.set_cons_zero, List.set_cons_succ]
              go_simp
              refine Calls.mono (burst_any _ _ _ lb _ p _ (hbb.keptD hG) (by omega)) ?_
              rintro e w2 ⟨vv, rfl, hov, hbx⟩
              refine hK _ _ ⟨rfl, hbx, ?_⟩
              show isBytes _ _ _
              simp only [List.getD_cons_zero, List.getD_cons_succ, Array.getD_eq_getD_getElem?, List.getElem?_toArray, List.getElem?_cons_zero, List.getElem?_cons_succ, Option.getD_some]
              exact hov.isBytes
            case r1o31 =>
              intro w1 hG
              intro v26 h26
              change _ = _ at h26
              subst h26
              intro v30 h30
              obtain ⟨a30, n30, c30, rfl, h30⟩ := h30
              refine turn_on (by rfl) ?_
              intro K hK
              simp only [List.getD_cons_zero, List.getD_cons_succ, List.setIfInBounds_toArray, List.set_cons_zero, List.set_cons_succ]
              refine wp_conv 97 rfl u8T s8 su _ rfl rfl (h30) ?_
              refine hK _ _ ⟨rfl, Kept.refl _, ?_⟩
              show _ = _
              simp only [List.getD_cons_zero, List.getD_cons_succ, Array.getD_eq_getD_getElem?, List.getElem?_toArray, List.getElem?_cons_zero, List.getElem?_cons_succ, Option.getD_some]
              rfl
            case r1o32 =>
              intro w1 hG
              intro v26 h26
              change _ = _ at h26
              subst h26
              refine turn_on (by rfl) ?_
              intro K hK
              simp only [List.getD_cons_zero, List.getD_cons_succ, List.setIfInBounds_toArray, List.set_cons_zero, List.set_cons_succ]
              go_simp
              refine hK _ _ ⟨rfl, Kept.refl _, ?_⟩
              show _ = _
              simp only [List.getD_cons_zero, List.getD_cons_succ, Array.getD_eq_getD_getElem?, List.getElem?_toArray, List.getElem?_cons_zero, List.getElem?_cons_succ, Option.getD_some]
              rfl
            case r1o33 =>
              intro w1 hG
              intro v26 h26
              change _ = _ at h26
              subst h26
              refine turn_on (by rfl) ?_
              intro K hK
              simp only [List.getD_cons_zero, List.getD_cons_succ, List.setIfInBounds_toArray, List.set_cons_zero, List.set_cons_succ]
              go_simp
              refine hK _ _ ⟨rfl, Kept.refl _, ?_⟩
              show _ = _
              simp only [List.getD_cons_zero, List.getD_cons_succ, Array.getD_eq_getD_getElem?, List.getElem?_toArray, List.getElem?_cons_zero, List.getElem?_cons_succ, Option.getD_some]
              rfl
            case r1o34 =>
              intro w1 hG
              intro v26 h26
              change _ = _ at h26
              subst h26
              refine turn_on (by rfl) ?_
              intro K hK
              simp only [List.getD_cons_zero, List.getD_cons_succ, List.setIfInBounds_toArray, List.set_cons_zero, List.set_cons_succ]
              go_simp
              refine hK _ _ ⟨rfl, Kept.refl _, ?_⟩
              show _ = _
              simp only [List.getD_cons_zero, List.getD_cons_succ, Array.getD_eq_getD_getElem?, List.getElem?_toArray, List.getElem?_cons_zero, List.getElem?_cons_succ, Option.getD_some]
              rfl
            case r1o35 =>
              intro w1 hG
              intro v26 h26
              change _ = _ at h26
              subst h26
              intro v32 h32
              change _ = _ at h32
              subst h32
              intro v33 h33
              change _ = _ at h33
              subst h33
              intro v34 h34
              change _ = _ at h34
              subst h34
              refine turn_on (by rfl) ?_
              intro K hK
              simp only [List.getD_cons_zero, List.getD_cons_succ, List.setIfInBounds_toArray, List.set_cons_zero, List.set_cons_succ]
              go_simp
              refine Calls.mono (refburst_any _ _ _ lb _ p _ (hbb.keptD hG) (by omega)) ?_
              rintro e w2 ⟨vv, rfl, hov, hbx⟩
              refine hK _ _ ⟨rfl, hbx, ?_⟩
              show isBytes _ _ _
              simp only [List.getD_cons_zero, List.getD_cons_succ, Array.getD_eq_getD_getElem?, List.getElem?_toArray, List.getElem?_cons_zero, List.getElem?_cons_succ, Option.getD_some]
              exact hov.isBytes
            case r1o36 =>
              intro w1 hG
              intro v26 h26
              change _ = _ at h26
              subst h26
              intro v35 h35
              obtain ⟨a35, n35, c35, rfl, h35⟩ := h35
              refine turn_on (by rfl) ?_
              intro K hK
              simp only [List.getD_cons_zero, List.getD_cons_succ, List.setIfInBounds_toArray, List.set_cons_zero, List.set_cons_succ]
              refine wp_conv 102 rfl u8T s8 su _ rfl rfl (h35) ?_
              refine hK _ _ ⟨rfl, Kept.refl _, ?_⟩
              show _ = _
              simp only [List.getD_cons_zero, List.getD_cons_succ, Array.getD_eq_getD_getElem?, List.getElem?_toArray, List.getElem?_cons_zero, List.getElem?_cons_succ, Option.getD_some]
              rfl
            case r1o37 =>
              intro w1 hG
              intro v26 h26
              change _ = _ at h26
              subst h26
              intro v31 h31
              change _ = _ at h31
              subst h31
              intro v36 h36
              change _ = _ at h36
              subst h36
              refine turn_on (by rfl) ?_
              intro K hK
              simp only [List.getD_cons_zero, List.getD_cons_succ, List.setIfInBounds_toArray, List.set_cons_zero, List.set_cons_succ]
              go_simp
              refine hK _ _ ⟨rfl, Kept.refl _, ?_⟩
              show _ = _
              simp only [List.getD_cons_zero, List.getD_cons_succ, Array.getD_eq_getD_getElem?, List.getElem?_toArray, List.getElem?_cons_zero, List.getElem?_cons_succ, Option.getD_some]
              rfl
            case r1o38 =>
              intro w1 hG
              intro v26 h26
              change _ = _ at h26
              subst h26
              intro v37 h37
              change _ = _ at h37
              subst h37
              refine turn_on (by rfl) ?_
              intro K hK
              simp only [List.getD_cons_zero, List.getD_cons_succ, List.setIfInBounds_toArray, List.set_cons_zero, List.set_cons_succ]
              go_simp
              refine hK _ _ ⟨rfl, Kept.refl _, ?_⟩
              show _ = _
              simp only [List.getD_cons_zero, List.getD_cons_succ, Array.getD_eq_getD_getElem?, List.getElem?_toArray, List.getElem?_cons_zero, List.getElem?_cons_succ, Option.getD_some]
              rfl
            case r1o39 =>
              intro w1 hG
              intro v38 h38
              change _ = _ at h38
              subst h38
              refine turn_on (by rfl) ?_
              intro K hK
              simp only [List.getD_cons_zero, List.getD_cons_succ, List.setIfInBounds_toArray, List.set_cons_zero, List.set_cons_succ]
              go_simp
              refine hK _ _ ⟨rfl, Kept.refl _, ?_⟩
              show _ = _
              simp only [List.getD_cons_zero, List.getD_cons_succ, Array.getD_eq_getD_getElem?, List.getElem?_toArray, List.getElem?_cons_zero, List.getElem?_cons_succ, Option.getD_some]
              rfl
          intro w1 hG
          intro v0 h0
          change _ = _ at h0
          subst h0
          intro v1 h1
          change _ = _ at h1
          subst h1
          intro v2 h2
          change _ = _ at h2
          subst h2
          intro v3 h3
          change _ = _ at h3
          subst h3
          intro v4 h4
          change _ = _ at h4
          subst h4
          intro v5 h5
          change _ = _ at h5
          subst h5
          intro v6 h6
          change _ = _ at h6
          subst h6
          intro v7 h7
          obtain ⟨a7, n7, c7, rfl, h7⟩ := h7
          intro v8 h8
          change _ = _ at h8
          subst h8
          intro v9 h9
          change _ = _ at h9
          subst h9
          intro v10 h10
          obtain ⟨a10, n10, c10, rfl, h10⟩ := h10
          intro v11 h11
          change _ = _ at h11
          subst h11
          intro v12 h12
          change _ = _ at h12
          subst h12
          intro v13 h13
          change _ = _ at h13
          subst h13
          intro v14 h14
          change _ = _ at h14
          subst h14
          intro v15 h15
          change _ = _ at h15
          subst h15
          intro v16 h16
          change _ = _ at h16
          subst h16
          intro v17 h17
          change _ = _ at h17
          subst h17
          intro v18 h18
          change _ = _ at h18
          subst h18
          intro v19 h19
          change _ = _ at h19
          subst h19
          intro v20 h20
          change _ = _ at h20
          subst h20
          intro v21 h21
          change _ = _ at h21
          subst h21
          intro v22 h22
          change _ = _ at h22
          subst h22
          intro v23 h23
          change _ = _ at h23
          subst h23
          intro v24 h24
          change _ = _ at h24
          subst h24
          intro v25 h25
          change _ = _ at h25
          subst h25
          intro v26 h26
          change _ = _ at h26
          subst h26
          intro v27 h27
          change _ = _ at h27
          subst h27
          intro v28 h28
          change _ = _ at h28
          subst h28
          intro v29 h29
          change _ = _ at h29
          subst h29
          intro v30 h30
          obtain ⟨a30, n30, c30, rfl, h30⟩ := h30
          intro v31 h31
          change _ = _ at h31
          subst h31
          intro v32 h32
          change _ = _ at h32
          subst h32
          intro v33 h33
          change _ = _ at h33
          subst h33
          intro v34 h34
          change _ = _ at h34
          subst h34
          intro v35 h35
          obtain ⟨a35, n35, c35, rfl, h35⟩ := h35
          intro v36 h36
          change _ = _ at h36
          subst h36
          intro v37 h37
          change _ = _ at h37
          subst h37
          intro v38 h38
          change _ = _ at h38
          subst h38
          intro v39 h39
          change _ = _ at h39
          subst h39
          simp only [Given, List.getD_cons_zero, List.getD_cons_succ, List.setIfInBounds_toArray, List.set_cons_zero, List.set_cons_succ]
          replace hb := hb.drew.trans (Below.mono hG hb.size)
          go_wp2
          go_ret
          exact ⟨rfl, hb⟩
set_option linter.unusedSimpArgs false in
set_option linter.unusedVariables false in
set_option maxRecDepth 100000 in
set_option maxHeartbeats 4000000 in
theorem sums_out (a : Option Addr) (n c : Nat) (ls : List (List Int)) (ab : Option Addr) (nb cb : Nat) (lb : List Int) (bit : Int) (p : Int) (w : World) (hP : PartsAt w a n ls) (hbb : RdAt .u8 w ab nb cb lb)
    (hsum0 : ls.flatten.length ≤ 1048576) (hn0 : n ≤ 1048576) (hout : 8192 < ls.flatten.length ∨ 8192 < nb ∨ 1000 < n) :
    Calls Try.prog 7 #[.slice a n c, .slice ab nb cb, .int .i64 bit, .int .u32 p] w fun e w' => e = .returned (.bool true) ∧ Below w.heap.size w w' := by
  have HLs := Lib.hid hP.len
  go_enter Try.func7, Try.ntmps7
  go_wp2_with (go_at_call 9; refine (known2 _).mono ?_; rintro e w1 ⟨rfl, hb⟩)
  replace hP := hP.below hb
  replace hbb := hbb.below hb
  go_loop [9, 10] (fun s i => ∃ k : Nat, k ≤ n ∧ i = .int .i64 k ∧ s = .int .i64 ((ls.take k).flatten.length : Nat)) (fun _ i => n - (intOf i).toNat)
  case atStart => exact ⟨0, by omega, rfl, rfl⟩
  case round =>
    obtain ⟨k, hk, rfl, rfl⟩ := hrel
    by_cases hp : k < n
    · obtain ⟨b, o, ai, ni, ci, rfl, hc, hr⟩ := hP.cell k hp
      have HF := Lib.hid (flat_len ls k (by rw [HLs.out]; exact hp))
      have HL := Lib.hid hr.len
      have hle := flat_le ls (k + 1)
      rw [HF.out, HL.out] at hle
      generalize (ls.take k).flatten.length = q at *
      go_wp2
      go_round
      case rel => exact ⟨k + 1, by omega, by go_num, by rw [HF.out, HL.out]; go_num⟩
      case measure => simp [intOf] <;> omega
    · have HK : Hid ((ls.take k).flatten.length = ls.flatten.length) := by show _ = _; rw [List.take_of_length_le (by rw [HLs.out]; omega)]
      clear hk
      rw [HK.out]
      generalize hq : ls.flatten.length = q at *
      clear hq HK
      rcases hout with h | h | h
      · have hz1 : decide ((8192 : Int) < q) = true := decide_eq_true (by omega)
        go_wp2
        go_ret
        exact ⟨rfl, hb⟩
      · have hz2 : decide ((8192 : Int) < nb) = true := decide_eq_true (by omega)
        by_cases hh : 8192 < q
        · have hz1 : decide ((8192 : Int) < q) = true := decide_eq_true (by omega)
          go_wp2
          go_ret
          exact ⟨rfl, hb⟩
        · have hz1 : decide ((8192 : Int) < q) = false := decide_eq_false (by omega)
          go_wp2
          go_ret
          exact ⟨rfl, hb⟩
      · have hz3 : decide ((1000 : Int) < n) = true := decide_eq_true (by omega)
        by_cases hh : 8192 < q
        · have hz1 : decide ((8192 : Int) < q) = true := decide_eq_true (by omega)
          go_wp2
          go_ret
          exact ⟨rfl, hb⟩
        · have hz1 : decide ((8192 : Int) < q) = false := decide_eq_false (by omega)
          by_cases hh2 : 8192 < nb
          · have hz2 : decide ((8192 : Int) < nb) = true := decide_eq_true (by omega)
            go_wp2
            go_ret
            exact ⟨rfl, hb⟩
          · have hz2 : decide ((8192 : Int) < nb) = false := decide_eq_false (by omega)
            go_wp2
            go_ret
            exact ⟨rfl, hb⟩
theorem crcSums_walk (a : Option Addr) (n c : Nat) (ls : List (List Int)) (ab : Option Addr) (nb cb : Nat) (lb : List Int) (bit : Int) (p : Int) (w : World) (hP : PartsAt w a n ls) (hsum0 : ls.flatten.length + n ≤ 1048576) (hbb : RdAt .u8 w ab nb cb lb)
    (_ : (Lit.int .i64 bit).wf = true) (hp : (Lit.int .u32 p).wf = true) :
    Calls Try.prog 7 #[.slice a n c, .slice ab nb cb, .int .i64 bit, .int .u32 p] w fun e w' => e = .returned (.bool true) ∧ Below w.heap.size w w' := by
  by_cases hc : ls.flatten.length ≤ 8192 ∧ n ≤ 1000 ∧ nb ≤ 8192
  · obtain ⟨x, rfl⟩ := rnum_of hp
    exact sums_in a n c ls ab nb cb lb bit x w hP hbb hc.1 hc.2.1 hc.2.2
  · exact sums_out a n c ls ab nb cb lb bit p w hP hbb (by omega) (by omega) (by omega)
end Go.Proofs.Ytendhldpgkdhnaa
