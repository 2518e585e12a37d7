/- The contracts of the document's sums: Sum, Seal, Open. -/
import Derived.Test.YtnlhpfcepbmbfaaSeal
namespace Go.Proofs.Ytnlhpfcepbmbfaa
open Go.RowKit
theorem low_go (r : BitVec 32) : bits .and .u32 (rnum r) 1 = if r.getLsbD 0 = true then 1 else 0 := by
  have := bit_test r 0
  rwa [Int.pow_zero, Int.ediv_one] at this
theorem bs_yes {r : BitVec 32} (h : r.getLsbD 0 = true) : bits .xor .u32 (rnum r / 2) 2197175160 = rnum (bs r) := by
  rw [u32_xor, show (2 : Int) = 2 ^ 1 from rfl, u32_shr, ofInt_u32]
  unfold bs
  rw [if_pos h]; rfl
theorem bs_no {r : BitVec 32} (h : ¬ r.getLsbD 0 = true) : rnum r / 2 = rnum (bs r) := by
  rw [show (2 : Int) = 2 ^ 1 from rfl, u32_shr]
  unfold bs
  rw [if_neg h, BitVec.xor_zero]
set_option maxHeartbeats 400000 in
theorem refsum_any (a : Option Addr) (n c : Nat) (l : List Int) (w : World) (h : RdAt .u8 w a n c l) :
    Calls Try.prog 63 #[.slice a n c] w fun e w' => e = .returned (.int .u32 (rnum (sumB l))) ∧ w = w' := by
  have hmax := h.max
  have hcap := h.cap
  unfold maxLen at hmax
  have HLL := Lib.hid h.len
  go_enter Try.func63, Try.ntmps63
  go_wp2
  go_loop [3, 4] (fun r i => ∃ k : Nat, k ≤ n ∧ i = .int .i64 k ∧ r = .int .u32 (rnum (st ones (l.take k)))) (fun _ i => n - (intOf i).toNat)
  case atStart => exact ⟨0, by omega, rfl, rfl⟩
  case round =>
    obtain ⟨k, hk, rfl, rfl⟩ := hrel
    by_cases hp : k < n
    · obtain ⟨b, o, rfl, hc⟩ := h.cell k hp
      obtain ⟨hb1, hb2⟩ := h.byte k hp
      have HS := Lib.hid (st_take ones l k (by rw [HLL.out]; exact hp))
      generalize st ones (l.take k) = s1 at *
      generalize nth l k = x at *
      have e1 := mix_go s1 x
      have HM : Hid (bsN 8 (mixB s1 x) = stB s1 x) := by show _ = _; rfl
      generalize mixB s1 x = z at *
      go_wp2
      go_loop [3, 5] (fun r j => ∃ q : Nat, q ≤ 8 ∧ j = .int .i64 q ∧ r = .int .u32 (rnum (bsN q z))) (fun _ j => 8 - (intOf j).toNat)
      case atStart => exact ⟨0, by omega, rfl, rfl⟩
      case round =>
        obtain ⟨q, hq, rfl, rfl⟩ := hrel
        by_cases hq8 : q < 8
        · have HB := Lib.hid (bsN_succ q z)
          generalize bsN q z = y at *
          by_cases hb : y.getLsbD 0 = true
          · have ht : (bits .and .u32 (rnum y) 1 == 1) = true := by rw [low_go, if_pos hb]; rfl
            have HX := Lib.hid (bs_yes hb)
            clear hb
            go_wp2
            go_round
            case rel => exact ⟨q + 1, by omega, by go_num, by rw [HX.out, HB.out]⟩
            case measure => simp [intOf] <;> omega
          · have ht : (bits .and .u32 (rnum y) 1 == 1) = false := by rw [low_go, if_neg hb]; rfl
            have HX := Lib.hid (bs_no hb)
            clear hb
            go_wp2
            go_round
            case rel => exact ⟨q + 1, by omega, by go_num, by rw [HX.out, HB.out]⟩
            case measure => simp [intOf] <;> omega
        · have HQ : Hid (bsN q z = bsN 8 z) := by show _ = _; rw [show q = 8 by omega]
          clear hq
          go_wp2
          go_round
          case rel => exact ⟨k + 1, by omega, by go_num, by rw [HQ.out, HM.out, HS.out]⟩
          case measure => simp [intOf] <;> omega
    · obtain rfl : k = n := by omega
      go_wp2
      go_ret
      exact ⟨ret_int (by rw [not_go, List.take_of_length_le (by rw [HLL.out]; omega)]; rfl), rfl⟩
theorem putL4 (s : Int) : putL s 4 = [s % 256, s / 256 % 256, s / 65536 % 256, s / 16777216 % 256] := by simp [putL]
theorem put4_rd (w : World) (s : Int) (e : Nat) (h1 : 0 ≤ s) (h2 : s ≤ 4294967295) : RdAt .u8 (w.alloc (.cells #[.int .u8 (s % 256), .int .u8 (s / 256 % 256), .int .u8 (s / 65536 % 256), .int .u8 (s / 16777216)] e)) (some ⟨w.heap.size, 0, none⟩) 4 4 (putL s 4) := by
  rw [putL4, show s / 16777216 % 256 = s / 16777216 by omega]
  exact lit_rd w _ [s % 256, s / 256 % 256, s / 65536 % 256, s / 16777216] e (0, 0) (by simp) (fun x hx => by
    simp only [List.mem_cons, List.not_mem_nil, or_false] at hx
    rcases hx with rfl | rfl | rfl | rfl
    · exact wf_mod8 _
    · exact wf_mod8 _
    · exact wf_mod8 _
    · exact WalkArith.wf_u8 (by omega)) (Below.refl _ _)
set_option maxHeartbeats 400000 in
theorem refseal_any (a : Option Addr) (n c : Nat) (l : List Int) (w : World) (h : RdAt .u8 w a n c l) (hn : n ≤ 1000000000) :
    Calls Try.prog 40 #[.slice a n c] w (GivesBytes (sealL l) w) := by
  have HL := Lib.hid h.len
  have hbd := u32_bd (sumB l)
  have hbd1 := hbd.1
  have hbd2 := hbd.2
  clear hbd
  go_enter Try.func40, Try.ntmps40
  go_wp2_with (first | (go_at_call 63; refine (refsum_any _ _ _ l _ h).mono ?_; rintro e w1 ⟨rfl, rfl⟩) | (at_builtin; refine app_all u8T u8I (by decide) rfl (.tmp 6) (.tmp 7) rfl _ w.heap.size _ [] rfl (Owns.empty _ _ _ _ _ _) _ _ _ l rfl (h.below ((Below.refl _ _).alloc (Nat.le_refl _) _)) (by simp; omega) (by simp) ?_; intro x1 w1 ho1 hg0; have hB1 := hg0.fromEmpty; obtain ⟨ax, cx, rfl⟩ := ho1.shapeN n HL.out; have hr1 := put4_rd w1 (rnum (sumB l)) 5 hbd1 hbd2) | (at_builtin; go_must (refine app_all u8T u8I (by decide) rfl (.tmp 8) (.tmp 20) rfl _ w.heap.size _ l rfl (ho1.alloc _) _ _ _ _ rfl hr1 (by rw [HL.out]; omega) (by have := hB1.size; simp; omega) ?_); intro x2 w2 ho2 hg2))
  go_ret
  exact ⟨_, rfl, ho2, hB1.trans ((Below.refl w.heap.size w1).alloc hB1.size _ |>.trans (hg2.below (by have := hB1.size; simp; omega) (fun g hg => (ho1.at_base g hg).1)))⟩
theorem open_iff {l : List Int} (hb : Bytes l) (h4 : 4 ≤ l.length) : openOk l = true ↔ sealL (l.take (l.length - 4)) = l := by
  constructor
  · intro h
    unfold openOk at h
    simp only [Bool.and_eq_true, decide_eq_true_eq] at h
    have hd : Bytes (l.drop (l.length - 4)) := fun x hx => hb x (List.mem_of_mem_drop hx)
    have e := putL_getK hd 4 (by rw [List.length_drop]; omega)
    rw [List.take_of_length_le (by rw [List.length_drop]; omega), h.2] at e
    unfold sealL
    rw [← e, List.take_append_drop]
  · intro h
    rw [← h]
    exact open_seal _
set_option maxHeartbeats 400000 in
theorem refopen_short (a : Option Addr) (n c : Nat) (l : List Int) (w : World) (h : RdAt .u8 w a n c l) (hn : n < 4) :
    Calls Try.prog 35 #[.slice a n c] w (GivesOpen l w) := by
  have e1 : openE l = 21 := by unfold openE; rw [if_pos (by rw [h.len]; exact hn)]
  have e2 : openL l = [] := by unfold openL openOk; rw [decide_eq_false (by rw [h.len]; omega)]; rfl
  have E1 := Lib.hid e1
  have E2 := Lib.hid e2
  clear e1 e2
  go_enter Try.func35, Try.ntmps35
  go_wp2
  go_ret2
  exact ⟨.slice none 0 0, by rw [E1.out]; rfl, by rw [E2.out]; exact Owns.nil _ _ _ _, Below.refl _ _⟩
set_option linter.unusedSimpArgs false in
set_option linter.unusedVariables false in
set_option maxRecDepth 100000 in
set_option maxHeartbeats 1000000 in
theorem refopen_long (b o m c : Nat) (l : List Int) (w : World) (h : RdAt .u8 w (some ⟨b, o, none⟩) (m + 4) c l) (hn : m ≤ 1000000) :
    Calls Try.prog 35 #[.slice (some ⟨b, o, none⟩) (m + 4 : Nat) c] w (GivesOpen l w) := by
  have hcap := h.cap
  have hmax := h.max
  unfold maxLen at hmax
  have ht := (RdAt.take h m (by omega))
  have hmc : m ≤ c := by omega
  have hbs := h.bytes
  have hl := h.len
  have hm : l.length - 4 = m := by omega
  have hi := open_iff hbs (by omega)
  rw [hm] at hi
  have hdec1 : decide ((m : Int) < 0) = false := decide_eq_false (by omega)
  have HTL : Hid ((l.take m).length = m) := by show _ = _; rw [List.length_take]; omega
  by_cases hok : openOk l = true
  · have E1 : Hid (openE l = 0) := by show _ = _; unfold openE; rw [if_neg (by omega), if_pos hok]
    have E2 : Hid (openL l = l.take m) := by show _ = _; unfold openL; rw [if_pos hok, hm]
    have hne : ((strOfNums (sealL (l.take m))).toList != (strOfNums l).toList) = false := by rw [hi.1 hok]; simp
    have hne2 : ((strOfNums (sealL (l.take m))).toList == (strOfNums l).toList) = true := by rw [hi.1 hok]; simp
    clear hok hl hm hi
    go_enter Try.func35, Try.ntmps35
    go_wp2_with fail
    refine' reg_free (G := Kept) (pickF [eqV _, eqV _, eqV _, isBytes (sealL (l.take m)), eqV _, eqV _, eqV _, eqV _]) [10, 11, 12, 13, 14, 15, 16, 17] [[], [], [0, 1], [2], [3], [], [5], [4, 6]] [0, 1, 2, 3, 4, 5, 6, 7] (by kernel_rfl) Kept.refl Kept.trans (pick_stays ⟨eqV_stays _, eqV_stays _, eqV_stays _, isBytes_stays _, eqV_stays _, eqV_stays _, eqV_stays _, eqV_stays _, trivial⟩) 23 rfl (by kernel_rfl) (by kernel_rfl) rfl rfl ?r1obl ?r1fin
    case r1obl =>
      refine And.intro ?r1o0 (And.intro ?r1o1 (And.intro ?r1o2 (And.intro ?r1o3 (And.intro ?r1o4 (And.intro ?r1o5 (And.intro ?r1o6 (And.intro ?r1o7 (True.intro))))))))
      case r1o0 =>
        intro w1 hG
        refine turn_on (by rfl) ?_
        intro K hK
        go_simp
        refine hK _ _ ⟨rfl, Kept.refl _, ?_⟩
        show _ = _
        simp only [List.getD_cons_zero, List.getD_cons_succ, Array.getD_eq_getD_getElem?, List.getElem?_toArray, List.getElem?_cons_zero, List.getElem?_cons_succ, Option.getD_some]
        rfl
      case r1o1 =>
        intro w1 hG
        refine turn_on (by rfl) ?_
        intro K hK
        go_simp
        refine hK _ _ ⟨rfl, Kept.refl _, ?_⟩
        show _ = _
        simp only [List.getD_cons_zero, List.getD_cons_succ, Array.getD_eq_getD_getElem?, List.getElem?_toArray, List.getElem?_cons_zero, List.getElem?_cons_succ, Option.getD_some]
        rfl
      case r1o2 =>
        intro w1 hG
        intro v0 h0
        change _ = _ at h0
        subst h0
        intro v1 h1
        change _ = _ at h1
        subst h1
        refine turn_on (by rfl) ?_
        intro K hK
        simp only [List.getD_cons_zero, List.getD_cons_succ, List.setIfInBounds_toArray, List.set_cons_zero, List.set_cons_succ]
        go_simp
        refine hK _ _ ⟨rfl, Kept.refl _, ?_⟩
        show _ = _
        simp only [List.getD_cons_zero, List.getD_cons_succ, Array.getD_eq_getD_getElem?, List.getElem?_toArray, List.getElem?_cons_zero, List.getElem?_cons_succ, Option.getD_some]
        rfl
      case r1o3 =>
        intro w1 hG
        intro v2 h2
        change _ = _ at h2
        subst h2
        refine turn_on (by rfl) ?_
        intro K hK
        simp only [List.getD_cons_zero, List.getD_cons_succ, List.setIfInBounds_toArray, List.set_cons_zero, List.set_cons_succ]
        go_simp
        refine Calls.mono (refseal_any _ _ _ (l.take m) _ (ht.keptD hG) (by omega)) ?_
        rintro e w2 ⟨vv, rfl, hov, hbx⟩
        refine hK _ _ ⟨rfl, hbx, ?_⟩
        show isBytes _ _ _
        simp only [List.getD_cons_zero, List.getD_cons_succ, Array.getD_eq_getD_getElem?, List.getElem?_toArray, List.getElem?_cons_zero, List.getElem?_cons_succ, Option.getD_some]
        exact hov.isBytes
      case r1o4 =>
        intro w1 hG
        intro v3 h3
        obtain ⟨a3, n3, c3, rfl, h3⟩ := h3
        refine turn_on (by rfl) ?_
        intro K hK
        simp only [List.getD_cons_zero, List.getD_cons_succ, List.setIfInBounds_toArray, List.set_cons_zero, List.set_cons_succ]
        refine wp_conv 14 rfl u8T s8 su _ rfl rfl (h3) ?_
        refine hK _ _ ⟨rfl, Kept.refl _, ?_⟩
        show _ = _
        simp only [List.getD_cons_zero, List.getD_cons_succ, Array.getD_eq_getD_getElem?, List.getElem?_toArray, List.getElem?_cons_zero, List.getElem?_cons_succ, Option.getD_some]
        rfl
      case r1o5 =>
        intro w1 hG
        refine turn_on (by rfl) ?_
        intro K hK
        go_simp
        refine hK _ _ ⟨rfl, Kept.refl _, ?_⟩
        show _ = _
        simp only [List.getD_cons_zero, List.getD_cons_succ, Array.getD_eq_getD_getElem?, List.getElem?_toArray, List.getElem?_cons_zero, List.getElem?_cons_succ, Option.getD_some]
        rfl
      case r1o6 =>
        intro w1 hG
        intro v5 h5
        change _ = _ at h5
        subst h5
        refine turn_on (by rfl) ?_
        intro K hK
        simp only [List.getD_cons_zero, List.getD_cons_succ, List.setIfInBounds_toArray, List.set_cons_zero, List.set_cons_succ]
        refine wp_conv 16 rfl u8T s8 su _ rfl rfl (h.keptD hG) ?_
        refine hK _ _ ⟨rfl, Kept.refl _, ?_⟩
        show _ = _
        simp only [List.getD_cons_zero, List.getD_cons_succ, Array.getD_eq_getD_getElem?, List.getElem?_toArray, List.getElem?_cons_zero, List.getElem?_cons_succ, Option.getD_some]
        rfl
      case r1o7 =>
        intro w1 hG
        intro v4 h4
        change _ = _ at h4
        subst h4
        intro v6 h6
        change _ = _ at h6
        subst h6
        refine turn_on (by rfl) ?_
        intro K hK
        simp only [List.getD_cons_zero, List.getD_cons_succ, List.setIfInBounds_toArray, List.set_cons_zero, List.set_cons_succ]
        go_simp
        refine hK _ _ ⟨rfl, Kept.refl _, ?_⟩
        show _ = _
        simp only [List.getD_cons_zero, List.getD_cons_succ, Array.getD_eq_getD_getElem?, List.getElem?_toArray, List.getElem?_cons_zero, List.getElem?_cons_succ, Option.getD_some]
        rfl
    intro w1 hG
    intro v0 h0
    change _ = _ at h0
    subst h0
    intro v1 h1
    change _ = _ at h1
    subst h1
    intro v2 h2
    change _ = _ at h2
    subst h2
    intro v3 h3
    obtain ⟨a3, n3, c3, rfl, h3⟩ := h3
    intro v4 h4
    change _ = _ at h4
    subst h4
    intro v5 h5
    change _ = _ at h5
    subst h5
    intro v6 h6
    change _ = _ at h6
    subst h6
    intro v7 h7
    change _ = _ at h7
    subst h7
    simp only [Given, List.getD_cons_zero, List.getD_cons_succ, List.setIfInBounds_toArray, List.set_cons_zero, List.set_cons_succ]
    go_wp2_with (at_builtin; refine app_all u8T u8I (by decide) rfl _ _ rfl _ w1.heap.size _ [] rfl (Owns.empty _ _ _ _ _ _) _ _ _ (l.take m) rfl ((ht.keptD hG).below ((Below.refl _ _).alloc (Nat.le_refl _) _)) (by simp; omega) (by simp) ?_; intro x1 w2 ho1 hg0)
    go_ret2
    have hB : Below w.heap.size w w1 := ((Below.refl w.heap.size w).drew).trans (Below.mono hG (Nat.le_refl _))
    exact ⟨x1, by rw [E1.out]; rfl, by rw [E2.out]; exact ho1.mono hB.size, hB.trans ((hg0.fromEmpty).mono hB.size)⟩
  · rw [Bool.not_eq_true] at hok
    have E1 : Hid (openE l = 23) := by show _ = _; unfold openE; rw [if_neg (by omega), hok]; rfl
    have E2 : Hid (openL l = []) := by show _ = _; unfold openL; rw [hok]; rfl
    have hne : ((strOfNums (sealL (l.take m))).toList != (strOfNums l).toList) = true := by
      rw [bne_iff_ne]
      intro e
      have := hi.2 (str_inj (seal_bytes ht.bytes) hbs e)
      rw [hok] at this
      cases this
    have hne2 : ((strOfNums (sealL (l.take m))).toList == (strOfNums l).toList) = false := by
      rw [bne] at hne
      simpa using hne
    clear hok hl hm hi
    go_enter Try.func35, Try.ntmps35
    go_wp2_with fail
    refine' reg_free (G := Kept) (pickF [eqV _, eqV _, eqV _, isBytes (sealL (l.take m)), eqV _, eqV _, eqV _, eqV _]) [10, 11, 12, 13, 14, 15, 16, 17] [[], [], [0, 1], [2], [3], [], [5], [4, 6]] [0, 1, 2, 3, 4, 5, 6, 7] (by kernel_rfl) Kept.refl Kept.trans (pick_stays ⟨eqV_stays _, eqV_stays _, eqV_stays _, isBytes_stays _, eqV_stays _, eqV_stays _, eqV_stays _, eqV_stays _, trivial⟩) 23 rfl (by kernel_rfl) (by kernel_rfl) rfl rfl ?r2obl ?r2fin
    case r2obl =>
      refine And.intro ?r2o0 (And.intro ?r2o1 (And.intro ?r2o2 (And.intro ?r2o3 (And.intro ?r2o4 (And.intro ?r2o5 (And.intro ?r2o6 (And.intro ?r2o7 (True.intro))))))))
      case r2o0 =>
        intro w1 hG
        refine turn_on (by rfl) ?_
        intro K hK
        go_simp
        refine hK _ _ ⟨rfl, Kept.refl _, ?_⟩
        show _ = _
        simp only [List.getD_cons_zero, List.getD_cons_succ, Array.getD_eq_getD_getElem?, List.getElem?_toArray, List.getElem?_cons_zero, List.getElem?_cons_succ, Option.getD_some]
        rfl
      case r2o1 =>
        intro w1 hG
        refine turn_on (by rfl) ?_
        intro K hK
        go_simp
        refine hK _ _ ⟨rfl, Kept.refl _, ?_⟩
        show _ = _
        simp only [List.getD_cons_zero, List.getD_cons_succ, Array.getD_eq_getD_getElem?, List.getElem?_toArray, List.getElem?_cons_zero, List.getElem?_cons_succ, Option.getD_some]
        rfl
      case r2o2 =>
        intro w1 hG
        intro v0 h0
        change _ = _ at h0
        subst h0
        intro v1 h1
        change _ = _ at h1
        subst h1
        refine turn_on (by rfl) ?_
        intro K hK
        simp only [List.getD_cons_zero, List.getD_cons_succ, List.setIfInBounds_toArray, List.set_cons_zero, List.set_cons_succ]
        go_simp
        refine hK _ _ ⟨rfl, Kept.refl _, ?_⟩
        show _ = _
        simp only [List.getD_cons_zero, List.getD_cons_succ, Array.getD_eq_getD_getElem?, List.getElem?_toArray, List.getElem?_cons_zero, List.getElem?_cons_succ, Option.getD_some]
        rfl
      case r2o3 =>
        intro w1 hG
        intro v2 h2
        change _ = _ at h2
        subst h2
        refine turn_on (by rfl) ?_
        intro K hK
        simp only [List.getD_cons_zero, List.getD_cons_succ, List.setIfInBounds_toArray, List.set_cons_zero, List.set_cons_succ]
        go_simp
        refine Calls.mono (refseal_any _ _ _ (l.take m) _ (ht.keptD hG) (by omega)) ?_
        rintro e w2 ⟨vv, rfl, hov, hbx⟩
        refine hK _ _ ⟨rfl, hbx, ?_⟩
        show isBytes _ _ _
        simp only [List.getD_cons_zero, List.getD_cons_succ, Array.getD_eq_getD_getElem?, List.getElem?_toArray, List.getElem?_cons_zero, List.getElem?_cons_succ, Option.getD_some]
        exact hov.isBytes
      case r2o4 =>
        intro w1 hG
        intro v3 h3
        obtain ⟨a3, n3, c3, rfl, h3⟩ := h3
        refine turn_on (by rfl) ?_
        intro K hK
        simp only [List.getD_cons_zero, List.getD_cons_succ, List.setIfInBounds_toArray, List.set_cons_zero, List.set_cons_succ]
        refine wp_conv 14 rfl u8T s8 su _ rfl rfl (h3) ?_
        refine hK _ _ ⟨rfl, Kept.refl _, ?_⟩
        show _ = _
        simp only [List.getD_cons_zero, List.getD_cons_succ, Array.getD_eq_getD_getElem?, List.getElem?_toArray, List.getElem?_cons_zero, List.getElem?_cons_succ, Option.getD_some]
        rfl
      case r2o5 =>
        intro w1 hG
        refine turn_on (by rfl) ?_
        intro K hK
        go_simp
        refine hK _ _ ⟨rfl, Kept.refl _, ?_⟩
        show _ = _
        simp only [List.getD_cons_zero, List.getD_cons_succ, Array.getD_eq_getD_getElem?, List.getElem?_toArray, List.getElem?_cons_zero, List.getElem?_cons_succ, Option.getD_some]
        rfl
      case r2o6 =>
        intro w1 hG
        intro v5 h5
        change _ = _ at h5
        subst h5
        refine turn_on (by rfl) ?_
        intro K hK
        simp only [List.getD_cons_zero, List.getD_cons_succ, List.setIfInBounds_toArray, List.set_cons_zero, List.set_cons_succ]
        refine wp_conv 16 rfl u8T s8 su _ rfl rfl (h.keptD hG) ?_
        refine hK _ _ ⟨rfl, Kept.refl _, ?_⟩
        show _ = _
        simp only [List.getD_cons_zero, List.getD_cons_succ, Array.getD_eq_getD_getElem?, List.getElem?_toArray, List.getElem?_cons_zero, List.getElem?_cons_succ, Option.getD_some]
        rfl
      case r2o7 =>
        intro w1 hG
        intro v4 h4
        change _ = _ at h4
        subst h4
        intro v6 h6
        change _ = _ at h6
        subst h6
        refine turn_on (by rfl) ?_
        intro K hK
        simp only [List.getD_cons_zero, List.getD_cons_succ, List.setIfInBounds_toArray, List.set_cons_zero, List.set_cons_succ]
        go_simp
        refine hK _ _ ⟨rfl, Kept.refl _, ?_⟩
        show _ = _
        simp only [List.getD_cons_zero, List.getD_cons_succ, Array.getD_eq_getD_getElem?, List.getElem?_toArray, List.getElem?_cons_zero, List.getElem?_cons_succ, Option.getD_some]
        rfl
    intro w1 hG
    intro v0 h0
    change _ = _ at h0
    subst h0
    intro v1 h1
    change _ = _ at h1
    subst h1
    intro v2 h2
    change _ = _ at h2
    subst h2
    intro v3 h3
    obtain ⟨a3, n3, c3, rfl, h3⟩ := h3
    intro v4 h4
    change _ = _ at h4
    subst h4
    intro v5 h5
    change _ = _ at h5
    subst h5
    intro v6 h6
    change _ = _ at h6
    subst h6
    intro v7 h7
    change _ = _ at h7
    subst h7
    simp only [Given, List.getD_cons_zero, List.getD_cons_succ, List.setIfInBounds_toArray, List.set_cons_zero, List.set_cons_succ]
    have hB : Below w.heap.size w w1 := ((Below.refl w.heap.size w).drew).trans (Below.mono hG (Nat.le_refl _))
    go_wp2
    go_ret2
    exact ⟨.slice none 0 0, by rw [E1.out]; rfl, by rw [E2.out]; exact Owns.nil _ _ _ _, hB⟩
theorem refopen_any (a : Option Addr) (n c : Nat) (l : List Int) (w : World) (h : RdAt .u8 w a n c l) (hn : n ≤ 1000000) :
    Calls Try.prog 35 #[.slice a n c] w (GivesOpen l w) := by
  by_cases hs : n < 4
  · exact refopen_short a n c l w h hs
  · obtain ⟨m, rfl⟩ : ∃ m, n = m + 4 := ⟨n - 4, by omega⟩
    obtain ⟨b, o, rfl, _⟩ := h.cell 0 (by omega)
    exact refopen_long b o m c l w h (by omega)
end Go.Proofs.Ytnlhpfcepbmbfaa
