/- Joined: The contracts of the document's sums: Sum, Seal, Open. The contract of the reference's Put. super's Encode, where a block may not be. []byte("..") of a constant: its row gets a mark behind its last cell; append to a slice that is full. No program in sight. -/
import Derived.Test.YtcbnebcooiagmaaJy9
import Derived.Test.YtcbnebcooiagmaaJy8
import Derived.Test.YtcbnebcooiagmaaJy1
import Derived.Test.YtcbnebcooiagmaaJy3
import Derived.Lib.SlBytesConst
namespace Go.Proofs.Ytcbnebcooiagmaa
open Go.RowKit
theorem low_go (r : BitVec 32) : bits .and .u32 (rnum r) 1 = if r.getLsbD 0 = true then 1 else 0 := by
  have := bit_test r 0
  rwa [Int.pow_zero, Int.ediv_one] at this
theorem bs_yes {r : BitVec 32} (h : r.getLsbD 0 = true) : bits .xor .u32 (rnum r / 2) 2197175160 = rnum (bs r) := by
  rw [u32_xor, show (2 : Int) = 2 ^ 1 from rfl, u32_shr, ofInt_u32]
  unfold bs
  rw [if_pos h]; rfl
theorem bs_no {r : BitVec 32} (h : ¬ r.getLsbD 0 = true) : rnum r / 2 = rnum (bs r) := by
  rw [show (2 : Int) = 2 ^ 1 from rfl, u32_shr]
  unfold bs
  rw [if_neg h, BitVec.xor_zero]
set_option maxRecDepth 100000 in
set_option maxHeartbeats 400000 in
theorem refsum_any (a : Option Addr) (n c : Nat) (l : List Int) (w : World) (h : RdAt .u8 w a n c l) :
    Calls Try.prog 15 #[.slice a n c] w fun e w' => e = .returned (.int .u32 (rnum (sumB l))) ∧ w = w' := by
  have hmax := h.max
  have hcap := h.cap
  unfold maxLen at hmax
  have HLL := Lib.hid h.len
  go_enter Try.func15, Try.ntmps15
  go_wp2
  go_loop [3, 4] (fun r i => ∃ k : Nat, k ≤ n ∧ i = .int .i64 k ∧ r = .int .u32 (rnum (st ones (l.take k)))) (fun _ i => n - (intOf i).toNat)
  case atStart => exact ⟨0, by omega, rfl, rfl⟩
  case round =>
    obtain ⟨k, hk, rfl, rfl⟩ := hrel
    by_cases hp : k < n
    · obtain ⟨b, o, rfl, hc⟩ := h.cell k hp
      obtain ⟨hb1, hb2⟩ := h.byte k hp
      have HS := Lib.hid (st_take ones l k (by rw [HLL.out]; exact hp))
      generalize st ones (l.take k) = s1 at *
      generalize nth l k = x at *
      have e1 := mix_go s1 x
      have HM : Hid (bsN 8 (mixB s1 x) = stB s1 x) := by show _ = _; rfl
      generalize mixB s1 x = z at *
      go_wp2
      go_loop [3, 5] (fun r j => ∃ q : Nat, q ≤ 8 ∧ j = .int .i64 q ∧ r = .int .u32 (rnum (bsN q z))) (fun _ j => 8 - (intOf j).toNat)
      case atStart => exact ⟨0, by omega, rfl, rfl⟩
      case round =>
        obtain ⟨q, hq, rfl, rfl⟩ := hrel
        by_cases hq8 : q < 8
        · have HB := Lib.hid (bsN_succ q z)
          generalize bsN q z = y at *
          by_cases hb : y.getLsbD 0 = true
          · have ht : (bits .and .u32 (rnum y) 1 == 1) = true := by rw [low_go, if_pos hb]; rfl
            have HX := Lib.hid (bs_yes hb)
            clear hb
            go_wp2
            go_round
            case rel => exact ⟨q + 1, by omega, by go_num, by rw [HX.out, HB.out]⟩
            case measure => simp [intOf] <;> omega
          · have ht : (bits .and .u32 (rnum y) 1 == 1) = false := by rw [low_go, if_neg hb]; rfl
            have HX := Lib.hid (bs_no hb)
            clear hb
            go_wp2
            go_round
            case rel => exact ⟨q + 1, by omega, by go_num, by rw [HX.out, HB.out]⟩
            case measure => simp [intOf] <;> omega
        · have HQ : Hid (bsN q z = bsN 8 z) := by show _ = _; rw [show q = 8 by omega]
          clear hq
          go_wp2
          go_round
          case rel => exact ⟨k + 1, by omega, by go_num, by rw [HQ.out, HM.out, HS.out]⟩
          case measure => simp [intOf] <;> omega
    · obtain rfl : k = n := by omega
      go_wp2
      go_ret
      exact ⟨ret_int (by rw [not_go, List.take_of_length_le (by rw [HLL.out]; omega)]; rfl), rfl⟩
theorem putL4 (s : Int) : putL s 4 = [s % 256, s / 256 % 256, s / 65536 % 256, s / 16777216 % 256] := by simp [putL]
theorem put4_rd (w : World) (s : Int) (e : Nat) (h1 : 0 ≤ s) (h2 : s ≤ 4294967295) : RdAt .u8 (w.alloc (.cells #[.int .u8 (s % 256), .int .u8 (s / 256 % 256), .int .u8 (s / 65536 % 256), .int .u8 (s / 16777216)] e)) (some ⟨w.heap.size, 0, none⟩) 4 4 (putL s 4) := by
  rw [putL4, show s / 16777216 % 256 = s / 16777216 by omega]
  exact lit_rd w _ [s % 256, s / 256 % 256, s / 65536 % 256, s / 16777216] e (0, 0) (by simp) (fun x hx => by
    simp only [List.mem_cons, List.not_mem_nil, or_false] at hx
    rcases hx with rfl | rfl | rfl | rfl
    · exact wf_mod8 _
    · exact wf_mod8 _
    · exact wf_mod8 _
    · exact WalkArith.wf_u8 (by omega)) (Below.refl _ _)
set_option maxRecDepth 100000 in
set_option maxHeartbeats 400000 in
theorem refseal_any (a : Option Addr) (n c : Nat) (l : List Int) (w : World) (h : RdAt .u8 w a n c l) (hn : n ≤ 1000000000) :
    Calls Try.prog 46 #[.slice a n c] w (GivesBytes (sealL l) w) := by
  have HL := Lib.hid h.len
  have hbd := u32_bd (sumB l)
  have hbd1 := hbd.1
  have hbd2 := hbd.2
  clear hbd
  go_enter Try.func46, Try.ntmps46
  go_wp2_with (first | (go_at_call 15; refine (refsum_any _ _ _ l _ h).mono ?_; rintro e w1 ⟨rfl, rfl⟩) | (at_builtin; refine app_all u8T u8I (by decide) rfl (.tmp 6) (.tmp 7) rfl _ w.heap.size _ [] rfl (Owns.empty _ _ _ _ _ _) _ _ _ l rfl (h.below ((Below.refl _ _).alloc (Nat.le_refl _) _)) (by simp; omega) (by simp) ?_; intro x1 w1 ho1 hg0; have hB1 := hg0.fromEmpty; obtain ⟨ax, cx, rfl⟩ := ho1.shapeN n HL.out; have hr1 := put4_rd w1 (rnum (sumB l)) 5 hbd1 hbd2) | (at_builtin; go_must (refine app_all u8T u8I (by decide) rfl (.tmp 8) (.tmp 20) rfl _ w.heap.size _ l rfl (ho1.alloc _) _ _ _ _ rfl hr1 (by rw [HL.out]; omega) (by have := hB1.size; simp; omega) ?_); intro x2 w2 ho2 hg2))
  go_ret
  exact ⟨_, rfl, ho2, hB1.trans ((Below.refl w.heap.size w1).alloc hB1.size _ |>.trans (hg2.below (by have := hB1.size; simp; omega) (fun g hg => (ho1.at_base g hg).1)))⟩
theorem open_iff {l : List Int} (hb : Bytes l) (h4 : 4 ≤ l.length) : openOk l = true ↔ sealL (l.take (l.length - 4)) = l := by
  constructor
  · intro h
    unfold openOk at h
    simp only [Bool.and_eq_true, decide_eq_true_eq] at h
    have hd : Bytes (l.drop (l.length - 4)) := fun x hx => hb x (List.mem_of_mem_drop hx)
    have e := putL_getK hd 4 (by rw [List.length_drop]; omega)
    rw [List.take_of_length_le (by rw [List.length_drop]; omega), h.2] at e
    unfold sealL
    rw [← e, List.take_append_drop]
  · intro h
    rw [← h]
    exact open_seal _
set_option maxRecDepth 100000 in
set_option maxHeartbeats 400000 in
theorem refopen_short (a : Option Addr) (n c : Nat) (l : List Int) (w : World) (h : RdAt .u8 w a n c l) (hn : n < 4) :
    Calls Try.prog 54 #[.slice a n c] w (GivesOpen l w) := by
  have e1 : openE l = 21 := by unfold openE; rw [if_pos (by rw [h.len]; exact hn)]
  have e2 : openL l = [] := by unfold openL openOk; rw [decide_eq_false (by rw [h.len]; omega)]; rfl
  have E1 := Lib.hid e1
  have E2 := Lib.hid e2
  clear e1 e2
  go_enter Try.func54, Try.ntmps54
  go_wp2
  go_ret2
  exact ⟨.slice none 0 0, by rw [E1.out]; rfl, by rw [E2.out]; exact Owns.nil _ _ _ _, Below.refl _ _⟩
set_option linter.unusedSimpArgs false in
set_option linter.unusedVariables false in
set_option maxRecDepth 100000 in
set_option maxHeartbeats 1000000 in
theorem refopen_long (b o m c : Nat) (l : List Int) (w : World) (h : RdAt .u8 w (some ⟨b, o, none⟩) (m + 4) c l) (hn : m ≤ 1000000) :
    Calls Try.prog 54 #[.slice (some ⟨b, o, none⟩) (m + 4 : Nat) c] w (GivesOpen l w) := by
  have hcap := h.cap
  have hmax := h.max
  unfold maxLen at hmax
  have ht := (RdAt.take h m (by omega))
  have hmc : m ≤ c := by omega
  have hbs := h.bytes
  have hl := h.len
  have hm : l.length - 4 = m := by omega
  have hi := open_iff hbs (by omega)
  rw [hm] at hi
  have hdec1 : decide ((m : Int) < 0) = false := decide_eq_false (by omega)
  have HTL : Hid ((l.take m).length = m) := by show _ = _; rw [List.length_take]; omega
  by_cases hok : openOk l = true
  · have E1 : Hid (openE l = 0) := by show _ = _; unfold openE; rw [if_neg (by omega), if_pos hok]
    have E2 : Hid (openL l = l.take m) := by show _ = _; unfold openL; rw [if_pos hok, hm]
    have hne : ((strOfNums (sealL (l.take m))).toList != (strOfNums l).toList) = false := by rw [hi.1 hok]; simp
    have hne2 : ((strOfNums (sealL (l.take m))).toList == (strOfNums l).toList) = true := by rw [hi.1 hok]; simp
    clear hok hl hm hi
    go_enter Try.func54, Try.ntmps54
    go_wp2_with fail
    refine' reg_free (G := Kept) (pickF [eqV _, eqV _, eqV _, isBytes (sealL (l.take m)), eqV _, eqV _, eqV _, eqV _]) [10, 11, 12, 13, 14, 15, 16, 17] [[], [], [0, 1], [2], [3], [], [5], [4, 6]] [0, 1, 2, 3, 4, 5, 6, 7] (by kernel_rfl) Kept.refl Kept.trans (pick_stays ⟨eqV_stays _, eqV_stays _, eqV_stays _, isBytes_stays _, eqV_stays _, eqV_stays _, eqV_stays _, eqV_stays _, trivial⟩) 23 rfl (by kernel_rfl) (by kernel_rfl) rfl rfl ?r1obl ?r1fin
    case r1obl =>
      refine And.intro ?r1o0 (And.intro ?r1o1 (And.intro ?r1o2 (And.intro ?r1o3 (And.intro ?r1o4 (And.intro ?r1o5 (And.intro ?r1o6 (And.intro ?r1o7 (True.intro))))))))
      case r1o0 =>
        intro w1 hG
        refine turn_on (by rfl) ?_
        intro K hK
        go_simp
        refine hK _ _ ⟨rfl, Kept.refl _, ?_⟩
        show _ = _
        simp only [List.getD_cons_zero, List.getD_cons_succ, Array.getD_eq_getD_getElem?, List.getElem?_toArray, List.getElem?_cons_zero, List.getElem?_cons_succ, Option.getD_some]
        rfl
      case r1o1 =>
        intro w1 hG
        refine turn_on (by rfl) ?_
        intro K hK
        go_simp
        refine hK _ _ ⟨rfl, Kept.refl _, ?_⟩
        show _ = _
        simp only [List.getD_cons_zero, List.getD_cons_succ, Array.getD_eq_getD_getElem?, List.getElem?_toArray, List.getElem?_cons_zero, List.getElem?_cons_succ, Option.getD_some]
        rfl
      case r1o2 =>
        intro w1 hG
        intro v0 h0
        change _ = _ at h0
        subst h0
        intro v1 h1
        change _ = _ at h1
        subst h1
        refine turn_on (by rfl) ?_
        intro K hK
        simp only [List.getD_cons_zero, List.getD_cons_succ, List.setIfInBounds_toArray, List.set_cons_zero, List.set_cons_succ]
        go_simp
        refine hK _ _ ⟨rfl, Kept.refl _, ?_⟩
        show _ = _
        simp only [List.getD_cons_zero, List.getD_cons_succ, Array.getD_eq_getD_getElem?, List.getElem?_toArray, List.getElem?_cons_zero, List.getElem?_cons_succ, Option.getD_some]
        rfl
      case r1o3 =>
        intro w1 hG
        intro v2 h2
        change _ = _ at h2
        subst h2
        refine turn_on (by rfl) ?_
        intro K hK
        simp only [List.getD_cons_zero, List.getD_cons_succ, List.setIfInBounds_toArray, List.set_cons_zero, List.set_cons_succ]
        go_simp
        refine Calls.mono (refseal_any _ _ _ (l.take m) _ (ht.keptD hG) (by omega)) ?_
        rintro e w2 ⟨vv, rfl, hov, hbx⟩
        refine hK _ _ ⟨rfl, hbx, ?_⟩
        show isBytes _ _ _
        simp only [List.getD_cons_zero, List.getD_cons_succ, Array.getD_eq_getD_getElem?, List.getElem?_toArray, List.getElem?_cons_zero, List.getElem?_cons_succ, Option.getD_some]
        exact hov.isBytes
      case r1o4 =>
        intro w1 hG
        intro v3 h3
        obtain ⟨a3, n3, c3, rfl, h3⟩ := h3
        refine turn_on (by rfl) ?_
        intro K hK
        simp only [List.getD_cons_zero, List.getD_cons_succ, List.setIfInBounds_toArray, List.set_cons_zero, List.set_cons_succ]
        refine wp_conv 14 rfl u8T s8 su _ rfl rfl (h3) ?_
        refine hK _ _ ⟨rfl, Kept.refl _, ?_⟩
        show _ = _
        simp only [List.getD_cons_zero, List.getD_cons_succ, Array.getD_eq_getD_getElem?, List.getElem?_toArray, List.getElem?_cons_zero, List.getElem?_cons_succ, Option.getD_some]
        rfl
      case r1o5 =>
        intro w1 hG
        refine turn_on (by rfl) ?_
        intro K hK
        go_simp
        refine hK _ _ ⟨rfl, Kept.refl _, ?_⟩
        show _ = _
        simp only [List.getD_cons_zero, List.getD_cons_succ, Array.getD_eq_getD_getElem?, List.getElem?_toArray, List.getElem?_cons_zero, List.getElem?_cons_succ, Option.getD_some]
        rfl
      case r1o6 =>
        intro w1 hG
        intro v5 h5
        change _ = _ at h5
        subst h5
        refine turn_on (by rfl) ?_
        intro K hK
        simp only [List.getD_cons_zero, List.getD_cons_succ, List.setIfInBounds_toArray, List.set_cons_zero, List.set_cons_succ]
        refine wp_conv 16 rfl u8T s8 su _ rfl rfl (h.keptD hG) ?_
        refine hK _ _ ⟨rfl, Kept.refl _, ?_⟩
        show _ = _
        simp only [List.getD_cons_zero, List.getD_cons_succ, Array.getD_eq_getD_getElem?, List.getElem?_toArray, List.getElem?_cons_zero, List.getElem?_cons_succ, Option.getD_some]
        rfl
      case r1o7 =>
        intro w1 hG
        intro v4 h4
        change _ = _ at h4
        subst h4
        intro v6 h6
        change _ = _ at h6
        subst h6
        refine turn_on (by rfl) ?_
        intro K hK
        simp only [List.getD_cons_zero, List.getD_cons_succ, List.setIfInBounds_toArray, List.set_cons_zero, List.set_cons_succ]
        go_simp
        refine hK _ _ ⟨rfl, Kept.refl _, ?_⟩
        show _ = _
        simp only [List.getD_cons_zero, List.getD_cons_succ, Array.getD_eq_getD_getElem?, List.getElem?_toArray, List.getElem?_cons_zero, List.getElem?_cons_succ, Option.getD_some]
        rfl
    intro w1 hG
    intro v0 h0
    change _ = _ at h0
    subst h0
    intro v1 h1
    change _ = _ at h1
    subst h1
    intro v2 h2
    change _ = _ at h2
    subst h2
    intro v3 h3
    obtain ⟨a3, n3, c3, rfl, h3⟩ := h3
    intro v4 h4
    change _ = _ at h4
    subst h4
    intro v5 h5
    change _ = _ at h5
    subst h5
    intro v6 h6
    change _ = _ at h6
    subst h6
    intro v7 h7
    change _ = _ at h7
    subst h7
    simp only [Given, List.getD_cons_zero, List.getD_cons_succ, List.setIfInBounds_toArray, List.set_cons_zero, List.set_cons_succ]
    go_wp2_with (at_builtin; refine app_all u8T u8I (by decide) rfl _ _ rfl _ w1.heap.size _ [] rfl (Owns.empty _ _ _ _ _ _) _ _ _ (l.take m) rfl ((ht.keptD hG).below ((Below.refl _ _).alloc (Nat.le_refl _) _)) (by simp; omega) (by simp) ?_; intro x1 w2 ho1 hg0)
    go_ret2
    have hB : Below w.heap.size w w1 := ((Below.refl w.heap.size w).drew).trans (Below.mono hG (Nat.le_refl _))
    exact ⟨x1, by rw [E1.out]; rfl, by rw [E2.out]; exact ho1.mono hB.size, hB.trans ((hg0.fromEmpty).mono hB.size)⟩
  · rw [Bool.not_eq_true] at hok
    have E1 : Hid (openE l = 23) := by show _ = _; unfold openE; rw [if_neg (by omega), hok]; rfl
    have E2 : Hid (openL l = []) := by show _ = _; unfold openL; rw [hok]; rfl
    have hne : ((strOfNums (sealL (l.take m))).toList != (strOfNums l).toList) = true := by
      rw [bne_iff_ne]
      intro e
      have := hi.2 (str_inj (seal_bytes ht.bytes) hbs e)
      rw [hok] at this
      cases this
    have hne2 : ((strOfNums (sealL (l.take m))).toList == (strOfNums l).toList) = false := by
      rw [bne] at hne
      simpa using hne
    clear hok hl hm hi
    go_enter Try.func54, Try.ntmps54
    go_wp2_with fail
    refine' reg_free (G := Kept) (pickF [eqV _, eqV _, eqV _, isBytes (sealL (l.take m)), eqV _, eqV _, eqV _, eqV _]) [10, 11, 12, 13, 14, 15, 16, 17] [[], [], [0, 1], [2], [3], [], [5], [4, 6]] [0, 1, 2, 3, 4, 5, 6, 7] (by kernel_rfl) Kept.refl Kept.trans (pick_stays ⟨eqV_stays _, eqV_stays _, eqV_stays _, isBytes_stays _, eqV_stays _, eqV_stays _, eqV_stays _, eqV_stays _, trivial⟩) 23 rfl (by kernel_rfl) (by kernel_rfl) rfl rfl ?r2obl ?r2fin
    case r2obl =>
      refine And.intro ?r2o0 (And.intro ?r2o1 (And.intro ?r2o2 (And.intro ?r2o3 (And.intro ?r2o4 (And.intro ?r2o5 (And.intro ?r2o6 (And.intro ?r2o7 (True.intro))))))))
      case r2o0 =>
        intro w1 hG
        refine turn_on (by rfl) ?_
        intro K hK
        go_simp
        refine hK _ _ ⟨rfl, Kept.refl _, ?_⟩
        show _ = _
        simp only [List.getD_cons_zero, List.getD_cons_succ, Array.getD_eq_getD_getElem?, List.getElem?_toArray, List.getElem?_cons_zero, List.getElem?_cons_succ, Option.getD_some]
        rfl
      case r2o1 =>
        intro w1 hG
        refine turn_on (by rfl) ?_
        intro K hK
        go_simp
        refine hK _ _ ⟨rfl, Kept.refl _, ?_⟩
        show _ = _
        simp only [List.getD_cons_zero, List.getD_cons_succ, Array.getD_eq_getD_getElem?, List.getElem?_toArray, List.getElem?_cons_zero, List.getElem?_cons_succ, Option.getD_some]
        rfl
      case r2o2 =>
        intro w1 hG
        intro v0 h0
        change _ = _ at h0
        subst h0
        intro v1 h1
        change _ = _ at h1
        subst h1
        refine turn_on (by rfl) ?_
        intro K hK
        simp only [List.getD_cons_zero, List.getD_cons_succ, List.setIfInBounds_toArray, List.set_cons_zero, List.set_cons_succ]
        go_simp
        refine hK _ _ ⟨rfl, Kept.refl _, ?_⟩
        show _ = _
        simp only [List.getD_cons_zero, List.getD_cons_succ, Array.getD_eq_getD_getElem?, List.getElem?_toArray, List.getElem?_cons_zero, List.getElem?_cons_succ, Option.getD_some]
        rfl
      case r2o3 =>
        intro w1 hG
        intro v2 h2
        change _ = _ at h2
        subst h2
        refine turn_on (by rfl) ?_
        intro K hK
        simp only [List.getD_cons_zero, List.getD_cons_succ, List.setIfInBounds_toArray, List.set_cons_zero, List.set_cons_succ]
        go_simp
        refine Calls.mono (refseal_any _ _ _ (l.take m) _ (ht.keptD hG) (by omega)) ?_
        rintro e w2 ⟨vv, rfl, hov, hbx⟩
        refine hK _ _ ⟨rfl, hbx, ?_⟩
        show isBytes _ _ _
        simp only [List.getD_cons_zero, List.getD_cons_succ, Array.getD_eq_getD_getElem?, List.getElem?_toArray, List.getElem?_cons_zero, List.getElem?_cons_succ, Option.getD_some]
        exact hov.isBytes
      case r2o4 =>
        intro w1 hG
        intro v3 h3
        obtain ⟨a3, n3, c3, rfl, h3⟩ := h3
        refine turn_on (by rfl) ?_
        intro K hK
        simp only [List.getD_cons_zero, List.getD_cons_succ, List.setIfInBounds_toArray, List.set_cons_zero, List.set_cons_succ]
        refine wp_conv 14 rfl u8T s8 su _ rfl rfl (h3) ?_
        refine hK _ _ ⟨rfl, Kept.refl _, ?_⟩
        show _ = _
        simp only [List.getD_cons_zero, List.getD_cons_succ, Array.getD_eq_getD_getElem?, List.getElem?_toArray, List.getElem?_cons_zero, List.getElem?_cons_succ, Option.getD_some]
        rfl
      case r2o5 =>
        intro w1 hG
        refine turn_on (by rfl) ?_
        intro K hK
        go_simp
        refine hK _ _ ⟨rfl, Kept.refl _, ?_⟩
        show _ = _
        simp only [List.getD_cons_zero, List.getD_cons_succ, Array.getD_eq_getD_getElem?, List.getElem?_toArray, List.getElem?_cons_zero, List.getElem?_cons_succ, Option.getD_some]
        rfl
      case r2o6 =>
        intro w1 hG
        intro v5 h5
        change _ = _ at h5
        subst h5
        refine turn_on (by rfl) ?_
        intro K hK
        simp only [List.getD_cons_zero, List.getD_cons_succ, List.setIfInBounds_toArray, List.set_cons_zero, List.set_cons_succ]
        refine wp_conv 16 rfl u8T s8 su _ rfl rfl (h.keptD hG) ?_
        refine hK _ _ ⟨rfl, Kept.refl _, ?_⟩
        show _ = _
        simp only [List.getD_cons_zero, List.getD_cons_succ, Array.getD_eq_getD_getElem?, List.getElem?_toArray, List.getElem?_cons_zero, List.getElem?_cons_succ, Option.getD_some]
        rfl
      case r2o7 =>
        intro w1 hG
        intro v4 h4
        change _ = _ at h4
        subst h4
        intro v6 h6
        change _ = _ at h6
        subst h6
        refine turn_on (by rfl) ?_
        intro K hK
        simp only [List.getD_cons_zero, List.getD_cons_succ, List.setIfInBounds_toArray, List.set_cons_zero, List.set_cons_succ]
        go_simp
        refine hK _ _ ⟨rfl, Kept.refl _, ?_⟩
        show _ = _
        simp only [List.getD_cons_zero, List.getD_cons_succ, Array.getD_eq_getD_getElem?, List.getElem?_toArray, List.getElem?_cons_zero, List.getElem?_cons_succ, Option.getD_some]
        rfl
    intro w1 hG
    intro v0 h0
    change _ = _ at h0
    subst h0
    intro v1 h1
    change _ = _ at h1
    subst h1
    intro v2 h2
    change _ = _ at h2
    subst h2
    intro v3 h3
    obtain ⟨a3, n3, c3, rfl, h3⟩ := h3
    intro v4 h4
    change _ = _ at h4
    subst h4
    intro v5 h5
    change _ = _ at h5
    subst h5
    intro v6 h6
    change _ = _ at h6
    subst h6
    intro v7 h7
    change _ = _ at h7
    subst h7
    simp only [Given, List.getD_cons_zero, List.getD_cons_succ, List.setIfInBounds_toArray, List.set_cons_zero, List.set_cons_succ]
    have hB : Below w.heap.size w w1 := ((Below.refl w.heap.size w).drew).trans (Below.mono hG (Nat.le_refl _))
    go_wp2
    go_ret2
    exact ⟨.slice none 0 0, by rw [E1.out]; rfl, by rw [E2.out]; exact Owns.nil _ _ _ _, hB⟩
set_option maxRecDepth 100000 in
theorem refopen_any (a : Option Addr) (n c : Nat) (l : List Int) (w : World) (h : RdAt .u8 w a n c l) (hn : n ≤ 1000000) :
    Calls Try.prog 54 #[.slice a n c] w (GivesOpen l w) := by
  by_cases hs : n < 4
  · exact refopen_short a n c l w h hs
  · obtain ⟨m, rfl⟩ : ∃ m, n = m + 4 := ⟨n - 4, by omega⟩
    obtain ⟨b, o, rfl, _⟩ := h.cell 0 (by omega)
    exact refopen_long b o m c l w h (by omega)
end Go.Proofs.Ytcbnebcooiagmaa
namespace Go.Proofs.Ytcbnebcooiagmaa
open Go.RowKit
set_option maxRecDepth 100000 in
theorem rput_any (x0 : Value) (l : List Int) (v m : Int) (w : World) (base : Nat) (h : Owns .u8 5 w base x0 l) (hbase : base ≤ w.heap.size) (hn : l.length ≤ 1000000000)
    (v1 : 0 ≤ v) (v2 : v ≤ 18446744073709551615) (m1 : -9223372036854775808 ≤ m) (m2 : m ≤ 9223372036854775807) :
    Calls Try.prog 42 #[x0, .int .u64 v, .int .i64 m] w fun e w' => ∃ r, e = .returned r ∧ Owns .u8 5 w' base r (l ++ putL v (putN m)) ∧ Grows w x0 w' r := by
  by_cases c1 : m ≤ 64
  by_cases c2 : 0 ≤ m
  · obtain ⟨m, rfl⟩ := Int.eq_ofNat_of_zero_le c2
    have hm : putN m = m := by unfold putN; omega
    rw [hm]
    clear hm
    go_enter Try.func42, Try.ntmps42
    go_wp2
    go_loopw [0, 1, 7] (fun x y i wr => ∃ k : Nat, k ≤ m ∧ i = .int .i64 k ∧ y = .int .u64 (v / 2 ^ (8 * k)) ∧ Owns .u8 5 wr base x (l ++ putL v k) ∧ Grows w x0 wr x) (fun _ _ i _ => m - (intOf i).toNat)
    case atStart => exact ⟨0, by omega, rfl, by simp, by simpa [putL] using h, Grows.refl _ _⟩
    case round =>
      obtain ⟨k, hk, rfl, rfl, ho, hb⟩ := hrel
      have hll : (l ++ putL v k).length = l.length + k := by simp [putL_len]
      have hsz := hb.1.size
      have hd := div_bd v (8 * k) v1
      have hd1 := hd.1
      have hd2 : v / 2 ^ (8 * k) ≤ 18446744073709551615 := by omega
      have HLL := Lib.hid hll
      clear hd hll
      by_cases hp : k < m
      · go_wp2_with (at_builtin; refine app_one u8T u8I (by decide) rfl _ _ rfl _ base _ (l ++ putL v k) rfl ho _ rfl ?_ (by rw [HLL.out]; omega) (by omega) ?_; exact wf_mod8 _; intro x2 w2 ho2 hb2)
        go_roundw
        case rel => exact ⟨k + 1, by omega, by go_num, by rw [turn_ref], by rw [putL_snoc _ _ _ _ rfl] at ho2; exact ho2, hb.trans hb2⟩
        case measure => simp [intOf] <;> omega
      · obtain rfl : k = m := by omega
        go_wp2
        go_ret
        exact ⟨_, rfl, ho, hb⟩
  · skip
    have hm : putN m = 0 := by unfold putN; omega
    rw [hm]
    clear hm
    go_enter Try.func42, Try.ntmps42
    go_wp2
    go_loopw [0, 1, 7] (fun x y i wr => ∃ k : Nat, k ≤ 0 ∧ i = .int .i64 k ∧ y = .int .u64 (v / 2 ^ (8 * k)) ∧ Owns .u8 5 wr base x (l ++ putL v k) ∧ Grows w x0 wr x) (fun _ _ i _ => 0 - (intOf i).toNat)
    case atStart => exact ⟨0, by omega, rfl, by simp, by simpa [putL] using h, Grows.refl _ _⟩
    case round =>
      obtain ⟨k, hk, rfl, rfl, ho, hb⟩ := hrel
      have hll : (l ++ putL v k).length = l.length + k := by simp [putL_len]
      have hsz := hb.1.size
      have hd := div_bd v (8 * k) v1
      have hd1 := hd.1
      have hd2 : v / 2 ^ (8 * k) ≤ 18446744073709551615 := by omega
      have HLL := Lib.hid hll
      clear hd hll
      by_cases hp : k < 0
      · exfalso; omega
      · obtain rfl : k = 0 := by omega
        go_wp2
        go_ret
        exact ⟨_, rfl, ho, hb⟩
  · skip
    have hm : putN m = 64 := by unfold putN; omega
    rw [hm]
    clear hm
    go_enter Try.func42, Try.ntmps42
    go_wp2
    go_loopw [0, 1, 7] (fun x y i wr => ∃ k : Nat, k ≤ 64 ∧ i = .int .i64 k ∧ y = .int .u64 (v / 2 ^ (8 * k)) ∧ Owns .u8 5 wr base x (l ++ putL v k) ∧ Grows w x0 wr x) (fun _ _ i _ => 64 - (intOf i).toNat)
    case atStart => exact ⟨0, by omega, rfl, by simp, by simpa [putL] using h, Grows.refl _ _⟩
    case round =>
      obtain ⟨k, hk, rfl, rfl, ho, hb⟩ := hrel
      have hll : (l ++ putL v k).length = l.length + k := by simp [putL_len]
      have hsz := hb.1.size
      have hd := div_bd v (8 * k) v1
      have hd1 := hd.1
      have hd2 : v / 2 ^ (8 * k) ≤ 18446744073709551615 := by omega
      have HLL := Lib.hid hll
      clear hd hll
      by_cases hp : k < 64
      · go_wp2_with (at_builtin; refine app_one u8T u8I (by decide) rfl _ _ rfl _ base _ (l ++ putL v k) rfl ho _ rfl ?_ (by rw [HLL.out]; omega) (by omega) ?_; exact wf_mod8 _; intro x2 w2 ho2 hb2)
        go_roundw
        case rel => exact ⟨k + 1, by omega, by go_num, by rw [turn_ref], by rw [putL_snoc _ _ _ _ rfl] at ho2; exact ho2, hb.trans hb2⟩
        case measure => simp [intOf] <;> omega
      · obtain rfl : k = 64 := by omega
        go_wp2
        go_ret
        exact ⟨_, rfl, ho, hb⟩
end Go.Proofs.Ytcbnebcooiagmaa
namespace Go.Proofs.Ytcbnebcooiagmaa
open Go.RowKit
theorem cells13 {w : World} {b T : Nat} {x0 x1 x2 x3 x4 x5 x6 x7 x8 x9 x10 x11 x12 : Value} (h : w.heap[b]? = some (.cells #[x0, x1, x2, x3, x4, x5, x6, x7, x8, x9, x10, x11, x12] T (0, 0))) : w.cell? ⟨b, 0, none⟩ = some x0 ∧ w.cell? ⟨b, 1, none⟩ = some x1 ∧ w.cell? ⟨b, 2, none⟩ = some x2 ∧ w.cell? ⟨b, 3, none⟩ = some x3 ∧ w.cell? ⟨b, 4, none⟩ = some x4 ∧ w.cell? ⟨b, 5, none⟩ = some x5 ∧ w.cell? ⟨b, 6, none⟩ = some x6 ∧ w.cell? ⟨b, 7, none⟩ = some x7 ∧ w.cell? ⟨b, 8, none⟩ = some x8 ∧ w.cell? ⟨b, 9, none⟩ = some x9 ∧ w.cell? ⟨b, 10, none⟩ = some x10 ∧ w.cell? ⟨b, 11, none⟩ = some x11 ∧ w.cell? ⟨b, 12, none⟩ = some x12 :=
  ⟨by rw [cell_of_row w _ _ _ _ _ h]; rfl, by rw [cell_of_row w _ _ _ _ _ h]; rfl, by rw [cell_of_row w _ _ _ _ _ h]; rfl, by rw [cell_of_row w _ _ _ _ _ h]; rfl, by rw [cell_of_row w _ _ _ _ _ h]; rfl, by rw [cell_of_row w _ _ _ _ _ h]; rfl, by rw [cell_of_row w _ _ _ _ _ h]; rfl, by rw [cell_of_row w _ _ _ _ _ h]; rfl, by rw [cell_of_row w _ _ _ _ _ h]; rfl, by rw [cell_of_row w _ _ _ _ _ h]; rfl, by rw [cell_of_row w _ _ _ _ _ h]; rfl, by rw [cell_of_row w _ _ _ _ _ h]; rfl, by rw [cell_of_row w _ _ _ _ _ h]; rfl⟩
set_option linter.unusedSimpArgs false in
set_option linter.unusedVariables false in
set_option maxRecDepth 100000 in
set_option maxHeartbeats 8000000 in
theorem supenc_no (ep f0 f1 f2 f3 f4 f5 f6 f7 f8 rs rn sq : Int) (w : World) (h : supArg ⟨ep, f0, f1, f2, f3, f4, f5, f6, f7, f8, rs, rn, sq⟩ = false) :
    Calls Try.prog 9 #[.agg #[.int .u64 ep, .int .i64 f0, .int .i64 f1, .int .i64 f2, .int .i64 f3, .int .i64 f4, .int .i64 f5, .int .i64 f6, .int .i64 f7, .int .i64 f8, .int .i64 rs, .int .i64 rn, .int .u64 sq]] w fun e w' => e = .returned (.tuple #[.slice none 0 0, .int .i64 1]) ∧ Below w.heap.size w w' := by
  have hba : Below w.heap.size w (w.alloc (.cells #[.int .u64 ep, .int .i64 f0, .int .i64 f1, .int .i64 f2, .int .i64 f3, .int .i64 f4, .int .i64 f5, .int .i64 f6, .int .i64 f7, .int .i64 f8, .int .i64 rs, .int .i64 rn, .int .u64 sq] 28)) := (Below.refl _ _).alloc (Nat.le_refl _) _
  have hrow := heap_alloc_new w (.cells #[.int .u64 ep, .int .i64 f0, .int .i64 f1, .int .i64 f2, .int .i64 f3, .int .i64 f4, .int .i64 f5, .int .i64 f6, .int .i64 f7, .int .i64 f8, .int .i64 rs, .int .i64 rn, .int .u64 sq] 28)
  obtain ⟨hb, hhb⟩ : ∃ hb, w.heap.size = hb := ⟨_, rfl⟩
  obtain ⟨wa, hwa⟩ : ∃ wa, w.alloc (.cells #[.int .u64 ep, .int .i64 f0, .int .i64 f1, .int .i64 f2, .int .i64 f3, .int .i64 f4, .int .i64 f5, .int .i64 f6, .int .i64 f7, .int .i64 f8, .int .i64 rs, .int .i64 rn, .int .u64 sq] 28) = wa := ⟨_, rfl⟩
  rw [hwa, hhb] at hba hrow
  have HBA := Lib.hid hba
  have HROW := Lib.hid hrow
  have HHB := Lib.hid hhb
  have HWA := Lib.hid hwa
  have hlt : hb < wa.heap.size := (Array.getElem?_eq_some_iff.1 hrow).1
  clear hba hrow hhb hwa
  by_cases hck : chkB f0 f1 f2 f3 f4 f5 f6 f7 f8 = true
  · have HCK : Hid (chkN f0 f1 f2 f3 f4 f5 f6 f7 f8 = 0) := by show _ = _; unfold chkN; rw [if_pos hck]
    unfold supArg Blk.chk at h
    simp only [hck, Bool.true_and] at h
    by_cases hrs : rs < 0
    · have d1 : decide (rs < 0) = true := decide_eq_true hrs
      clear h hck
      go_enter Try.func9, Try.ntmps9
      go_wp2_with fail
      try rw [HWA.out, HHB.out]
      refine (check_any f0 f1 f2 f3 f4 f5 f6 f7 f8 _).mono ?_
      rintro e w1 ⟨rfl, hb1⟩
      rw [HCK.out]
      have BW1 := Lib.hid (Below.trans HBA.out (hb1.mono (Nat.le_of_lt hlt)))
      have ROW1 : Hid (w1.heap[hb]? = some (.cells #[.int .u64 ep, .int .i64 f0, .int .i64 f1, .int .i64 f2, .int .i64 f3, .int .i64 f4, .int .i64 f5, .int .i64 f6, .int .i64 f7, .int .i64 f8, .int .i64 rs, .int .i64 rn, .int .u64 sq] 28 (0, 0))) := by show _ = _; rw [hb1.block hb hlt]; exact HROW.out
      clear hb1
      obtain ⟨z0, z1, z2, z3, z4, z5, z6, z7, z8, z9, z10, z11, z12⟩ := cells13 ROW1.out
      go_wp2_with fail
      go_ret2
      rw [HHB.out]
      exact ⟨rfl, BW1.out⟩
    · have d1 : decide (rs < 0) = false := decide_eq_false hrs
      have d2 : decide (rn < 0) = true := by
        have e1 : decide (0 ≤ rs) = true := decide_eq_true (by omega)
        rw [e1, Bool.true_and] at h
        exact decide_eq_true (by have := of_decide_eq_false h; omega)
      clear h hck
      go_enter Try.func9, Try.ntmps9
      go_wp2_with fail
      try rw [HWA.out, HHB.out]
      refine (check_any f0 f1 f2 f3 f4 f5 f6 f7 f8 _).mono ?_
      rintro e w1 ⟨rfl, hb1⟩
      rw [HCK.out]
      have BW1 := Lib.hid (Below.trans HBA.out (hb1.mono (Nat.le_of_lt hlt)))
      have ROW1 : Hid (w1.heap[hb]? = some (.cells #[.int .u64 ep, .int .i64 f0, .int .i64 f1, .int .i64 f2, .int .i64 f3, .int .i64 f4, .int .i64 f5, .int .i64 f6, .int .i64 f7, .int .i64 f8, .int .i64 rs, .int .i64 rn, .int .u64 sq] 28 (0, 0))) := by show _ = _; rw [hb1.block hb hlt]; exact HROW.out
      clear hb1
      obtain ⟨z0, z1, z2, z3, z4, z5, z6, z7, z8, z9, z10, z11, z12⟩ := cells13 ROW1.out
      go_wp2_with fail
      go_ret2
      rw [HHB.out]
      exact ⟨rfl, BW1.out⟩
  · have HCK : Hid (chkN f0 f1 f2 f3 f4 f5 f6 f7 f8 = 1) := by show _ = _; unfold chkN; rw [if_neg hck]
    clear h hck
    go_enter Try.func9, Try.ntmps9
    go_wp2_with fail
    try rw [HWA.out, HHB.out]
    refine (check_any f0 f1 f2 f3 f4 f5 f6 f7 f8 _).mono ?_
    rintro e w1 ⟨rfl, hb1⟩
    rw [HCK.out]
    have BW1 := Lib.hid (Below.trans HBA.out (hb1.mono (Nat.le_of_lt hlt)))
    have ROW1 : Hid (w1.heap[hb]? = some (.cells #[.int .u64 ep, .int .i64 f0, .int .i64 f1, .int .i64 f2, .int .i64 f3, .int .i64 f4, .int .i64 f5, .int .i64 f6, .int .i64 f7, .int .i64 f8, .int .i64 rs, .int .i64 rn, .int .u64 sq] 28 (0, 0))) := by show _ = _; rw [hb1.block hb hlt]; exact HROW.out
    clear hb1
    go_wp2_with fail
    go_ret2
    rw [HHB.out]
    exact ⟨rfl, BW1.out⟩
set_option linter.unusedSimpArgs false in
set_option linter.unusedVariables false in
set_option maxRecDepth 100000 in
set_option maxHeartbeats 8000000 in
theorem refenc_no (ep f0 f1 f2 f3 f4 f5 f6 f7 f8 rs rn sq : Int) (w : World) (h : supArg ⟨ep, f0, f1, f2, f3, f4, f5, f6, f7, f8, rs, rn, sq⟩ = false) :
    Calls Try.prog 10 #[.agg #[.int .u64 ep, .int .i64 f0, .int .i64 f1, .int .i64 f2, .int .i64 f3, .int .i64 f4, .int .i64 f5, .int .i64 f6, .int .i64 f7, .int .i64 f8, .int .i64 rs, .int .i64 rn, .int .u64 sq]] w fun e w' => e = .returned (.tuple #[.slice none 0 0, .int .i64 1]) ∧ Below w.heap.size w w' := by
  have hba : Below w.heap.size w (w.alloc (.cells #[.int .u64 ep, .int .i64 f0, .int .i64 f1, .int .i64 f2, .int .i64 f3, .int .i64 f4, .int .i64 f5, .int .i64 f6, .int .i64 f7, .int .i64 f8, .int .i64 rs, .int .i64 rn, .int .u64 sq] 36)) := (Below.refl _ _).alloc (Nat.le_refl _) _
  have hrow := heap_alloc_new w (.cells #[.int .u64 ep, .int .i64 f0, .int .i64 f1, .int .i64 f2, .int .i64 f3, .int .i64 f4, .int .i64 f5, .int .i64 f6, .int .i64 f7, .int .i64 f8, .int .i64 rs, .int .i64 rn, .int .u64 sq] 36)
  obtain ⟨hb, hhb⟩ : ∃ hb, w.heap.size = hb := ⟨_, rfl⟩
  obtain ⟨wa, hwa⟩ : ∃ wa, w.alloc (.cells #[.int .u64 ep, .int .i64 f0, .int .i64 f1, .int .i64 f2, .int .i64 f3, .int .i64 f4, .int .i64 f5, .int .i64 f6, .int .i64 f7, .int .i64 f8, .int .i64 rs, .int .i64 rn, .int .u64 sq] 36) = wa := ⟨_, rfl⟩
  rw [hwa, hhb] at hba hrow
  have HBA := Lib.hid hba
  have HROW := Lib.hid hrow
  have HHB := Lib.hid hhb
  have HWA := Lib.hid hwa
  have hlt : hb < wa.heap.size := (Array.getElem?_eq_some_iff.1 hrow).1
  clear hba hrow hhb hwa
  by_cases hck : chkB f0 f1 f2 f3 f4 f5 f6 f7 f8 = true
  · have HCK : Hid (chkN f0 f1 f2 f3 f4 f5 f6 f7 f8 = 0) := by show _ = _; unfold chkN; rw [if_pos hck]
    unfold supArg Blk.chk at h
    simp only [hck, Bool.true_and] at h
    by_cases hrs : rs < 0
    · have d1 : decide (rs < 0) = true := decide_eq_true hrs
      clear h hck
      go_enter Try.func10, Try.ntmps10
      go_wp2_with fail
      try rw [HWA.out, HHB.out]
      refine (refcheck_any f0 f1 f2 f3 f4 f5 f6 f7 f8 _).mono ?_
      rintro e w1 ⟨rfl, hb1⟩
      rw [HCK.out]
      have BW1 := Lib.hid (Below.trans HBA.out (hb1.mono (Nat.le_of_lt hlt)))
      have ROW1 : Hid (w1.heap[hb]? = some (.cells #[.int .u64 ep, .int .i64 f0, .int .i64 f1, .int .i64 f2, .int .i64 f3, .int .i64 f4, .int .i64 f5, .int .i64 f6, .int .i64 f7, .int .i64 f8, .int .i64 rs, .int .i64 rn, .int .u64 sq] 36 (0, 0))) := by show _ = _; rw [hb1.block hb hlt]; exact HROW.out
      clear hb1
      obtain ⟨z0, z1, z2, z3, z4, z5, z6, z7, z8, z9, z10, z11, z12⟩ := cells13 ROW1.out
      go_wp2_with fail
      go_ret2
      rw [HHB.out]
      exact ⟨rfl, BW1.out⟩
    · have d1 : decide (rs < 0) = false := decide_eq_false hrs
      have d2 : decide (rn < 0) = true := by
        have e1 : decide (0 ≤ rs) = true := decide_eq_true (by omega)
        rw [e1, Bool.true_and] at h
        exact decide_eq_true (by have := of_decide_eq_false h; omega)
      clear h hck
      go_enter Try.func10, Try.ntmps10
      go_wp2_with fail
      try rw [HWA.out, HHB.out]
      refine (refcheck_any f0 f1 f2 f3 f4 f5 f6 f7 f8 _).mono ?_
      rintro e w1 ⟨rfl, hb1⟩
      rw [HCK.out]
      have BW1 := Lib.hid (Below.trans HBA.out (hb1.mono (Nat.le_of_lt hlt)))
      have ROW1 : Hid (w1.heap[hb]? = some (.cells #[.int .u64 ep, .int .i64 f0, .int .i64 f1, .int .i64 f2, .int .i64 f3, .int .i64 f4, .int .i64 f5, .int .i64 f6, .int .i64 f7, .int .i64 f8, .int .i64 rs, .int .i64 rn, .int .u64 sq] 36 (0, 0))) := by show _ = _; rw [hb1.block hb hlt]; exact HROW.out
      clear hb1
      obtain ⟨z0, z1, z2, z3, z4, z5, z6, z7, z8, z9, z10, z11, z12⟩ := cells13 ROW1.out
      go_wp2_with fail
      go_ret2
      rw [HHB.out]
      exact ⟨rfl, BW1.out⟩
  · have HCK : Hid (chkN f0 f1 f2 f3 f4 f5 f6 f7 f8 = 1) := by show _ = _; unfold chkN; rw [if_neg hck]
    clear h hck
    go_enter Try.func10, Try.ntmps10
    go_wp2_with fail
    try rw [HWA.out, HHB.out]
    refine (refcheck_any f0 f1 f2 f3 f4 f5 f6 f7 f8 _).mono ?_
    rintro e w1 ⟨rfl, hb1⟩
    rw [HCK.out]
    have BW1 := Lib.hid (Below.trans HBA.out (hb1.mono (Nat.le_of_lt hlt)))
    have ROW1 : Hid (w1.heap[hb]? = some (.cells #[.int .u64 ep, .int .i64 f0, .int .i64 f1, .int .i64 f2, .int .i64 f3, .int .i64 f4, .int .i64 f5, .int .i64 f6, .int .i64 f7, .int .i64 f8, .int .i64 rs, .int .i64 rn, .int .u64 sq] 36 (0, 0))) := by show _ = _; rw [hb1.block hb hlt]; exact HROW.out
    clear hb1
    go_wp2_with fail
    go_ret2
    rw [HHB.out]
    exact ⟨rfl, BW1.out⟩
end Go.Proofs.Ytcbnebcooiagmaa
namespace Go.Proofs.Ytcbnebcooiagmaa
open Go.RowKit
section
variable {P : Program}
theorem run_mark {w : World} {t e : TypeId} {C : Array Value} {q n c : Nat} (ht : P.underlying t = some (.slice e)) (he : P.underlying e = some (.int .u8)) (row : w.heap[q]? = some (.cells C e (0, 0))) :
    ∃ w', (convert t t (.slice (some ⟨q, 0, none⟩) n c)).run P w = .ok (.slice (some ⟨q, 0, none⟩) n c) w' ∧ w'.heap[q]? = some (.cells C e (C.size, C.size + 1)) ∧ w.grownBy w' (some q) := by
  have hsh : w.shape? q = some (e, C.size) := by unfold World.shape?; rw [row]
  have hq : q < w.heap.size := (Array.getElem?_eq_some_iff.1 row).1
  have hz : w.heap[q] = .cells C e (0, 0) := (Array.getElem?_eq_some_iff.1 row).2
  refine ⟨w.freeze ⟨q, C.size, none⟩ 1, ?_, ?_, ?_⟩
  · simp [convert, run_underlying ht, run_underlying he, markStringish, hsh]
  · unfold World.freeze
    rw [if_neg (by decide)]
    show (w.heap.modify q _)[q]? = _
    rw [Array.getElem?_modify, if_pos rfl, row]
    rfl
  · unfold World.freeze
    rw [if_neg (by decide)]
    exact ⟨rfl, rfl, rfl, by simp, fun k _ hk => by
      show (w.heap.modify q _)[k]? = _
      rw [Array.getElem?_modify, if_neg (fun e => hk (by rw [e]))]⟩
theorem rd_row {w : World} {q : Nat} {l : List Int} {e : TypeId} {fr : Nat × Nat} (row : w.heap[q]? = some (.cells (l.map (Value.int .u8)).toArray e fr)) (hl : l.length ≤ 1000) (hw : ∀ x ∈ l, (Lit.int .u8 x).wf = true) : RdAt .u8 w (some ⟨q, 0, none⟩) l.length l.length l :=
  ⟨rfl, Nat.le_refl _, by unfold maxLen; omega, fun i hi => ⟨_, _, rfl, by rw [cell_of_row w _ _ _ _ _ row, Nat.zero_add, List.getElem?_toArray, List.getElem?_map, List.getElem?_eq_getElem hi, nth_eq hi]; rfl⟩, hw, fun h => by cases h⟩
end
section
variable {P : Program} {ds : List Deferred} {t : Array Value} {K : Act → World → Prop} {Q : Exit → Act → World → Prop} {o : Oper}
theorem wp_mark {T e : TypeId} (d : Tmp) (hd : o.dst = some d) (hs : P.underlying T = some (.slice e)) (he : P.underlying e = some (.int .u8)) (x : Operand) (ho : o.op = .convert T T x)
    {w : World} {C : Array Value} {q n c : Nat} (hx : (Act.mk t ds).eval x = .slice (some ⟨q, 0, none⟩) n c) (row : w.heap[q]? = some (.cells C e (0, 0)))
    (h : ∀ w', w'.heap[q]? = some (.cells C e (C.size, C.size + 1)) → w.grownBy w' (some q) → K ⟨t.setIfInBounds d (.slice (some ⟨q, 0, none⟩) n c), ds⟩ w') : Oper.wp P o ⟨t, ds⟩ w K Q := by
  obtain ⟨w', hr, h1, h2⟩ := run_mark (P := P) (n := n) (c := c) hs he row
  refine wp_of_run d hd ?_ (h w' h1 h2)
  unfold execOp
  simp only [ho, hx]
  simp [hr, Result.andThen]
end
section
variable {P : Program} {k : IntKind} {T e bytes : Nat} {ops : Array Oper} {rest : List Oper} {o : Oper} {a : Act} {Q : Exit → Act → World → Prop}
/-- append(s, x) where s is full: the result is a row of the call's own. -/
theorem run_app_full (hT : P.underlying T = some (.slice e)) (hI : elemInfo P e k bytes) (hby : bytes ≤ 8) (ty : TypeId) (w : World) (a0 : Option Addr) (n : Nat) (l : List Int) (hrd : RdAt k w a0 n n l)
    (q : Int) (hq : (Lit.int k q).wf = true) (hlen : l.length ≤ 1000000) :
    ∃ v' w', (Builtin.append_ #[T, T] ty #[.slice a0 n n, .slice (some ⟨w.heap.size, 0, none⟩) 1 1]).run P (w.alloc (.cells #[.int k q] e)) = .ok v' w' ∧ Owns k e w' w.heap.size v' (l ++ [q]) ∧ Below w.heap.size w w' := by
  have hl := hrd.len
  obtain ⟨i, hi, hz0, hz1, hz2⟩ := info_parts hI
  have hwf : ∀ z ∈ l ++ [q], (Lit.int k z).wf = true := by
    intro z hz'
    rcases List.mem_append.1 hz' with h | h
    · exact hrd.wf z h
    · rw [List.mem_singleton.1 h]; exact hq
  cases a0 with
  | none =>
    obtain rfl : n = 0 := hrd.void rfl
    obtain rfl : l = [] := List.eq_nil_of_length_eq_zero hl
    obtain ⟨v', w', hr, h1, h2⟩ := run_app_one (P := P) hT hI hby ty w w.heap.size (.slice none 0 0) [] (Owns.nil _ _ _ _) q hq (by simp) (Nat.le_refl _)
    exact ⟨v', w', hr, h1, h2.fromNone⟩
  | some ad =>
    have hnew : ∀ j u, ([Value.int k q] : List Value)[j]? = some u → (w.alloc (.cells #[.int k q] e)).cell? ((⟨w.heap.size, 0, none⟩ : Addr).add j) = some u := by
      intro j u hu
      cases j with
      | zero => simp at hu; subst hu; rw [Addr.add_lit]; simp
      | succ j => simp at hu
    have hold : ∀ j u, (l.map (Value.int k))[j]? = some u → (w.alloc (.cells #[.int k q] e)).cell? (ad.add j) = some u := by
      intro j u hu
      have hj : j < n := by have := (List.getElem?_eq_some_iff.1 hu).1; simpa [hl] using this
      obtain ⟨b, o', e', hc⟩ := (hrd.alloc (.cells #[.int k q] e)).cell j hj
      injection e' with e'
      subst e'
      rw [Addr.add_lit]
      rw [List.getElem?_map, List.getElem?_eq_getElem (by omega)] at hu
      rw [nth_eq (by omega)] at hc
      exact hc.trans hu
    have hbb : (n + 1) * bytes ≤ (n + 1) * 8 := Nat.mul_le_mul_left _ hby
    have hr := run_append_grow (P := P) (w.alloc (.cells #[.int k q] e)) T ty e i (.int k 0) hT hi hz0 ad n n (l.map (Value.int k)) (by rw [List.length_map, hz1, hl, Nat.mul_one]) hold ⟨w.heap.size, 0, none⟩ 1 1 [.int k q] (by rw [hz1]; rfl) hnew (by omega) (by omega) (growslice_fits (by omega) (by rw [hz2]; omega))
    have hge := grownCap_ge (w.alloc (.cells #[.int k q] e)) (n + 1) n e
    have hcm : grownCap (w.alloc (.cells #[.int k q] e)) (n + 1) n e ≤ maxLen := grownCap_le_maxLen _ (n + 1) n e (by unfold maxLen; omega)
    refine ⟨_, _, hr, ⟨hwf, .inr ⟨by simp, .inr ⟨_, _, _, by rw [List.length_append, hl]; rfl, by simp, heap_alloc_new (w.alloc (.cells #[.int k q] e)).drew _, by rw [List.length_append, hl]; exact hge, hcm, ?_, ?_⟩⟩⟩, ?_⟩
    · rw [Array.size_append, Array.size_append, size_zeroCells, List.size_toArray, List.length_map, hl]
      simp [Value.cells]
      omega
    · rw [Array.toList_append, Array.toList_append, List.map_append, Nat.mul_one]
      exact List.take_left' (by simp)
    · have h1 : Below w.heap.size w (w.alloc (.cells #[.int k q] e)).drew := ⟨rfl, rfl, rfl, by simp, fun j hj => Below.heap_alloc w _ j hj⟩
      exact h1.alloc h1.size _
theorem app_one_full (hT : P.underlying T = some (.slice e)) (hI : elemInfo P e k bytes) (hby : bytes ≤ 8) (hg : o.guard = none) (s x : Operand)
    (ho : o.op = .call { callee := .builtin .append, args := #[s, x], argTypes := #[T, T] }) (w : World) (a0 : Option Addr) (n : Nat) (l : List Int) (hs : a.eval s = .slice a0 n n) (hrd : RdAt k w a0 n n l)
    (q : Int) (hx : a.eval x = .slice (some ⟨w.heap.size, 0, none⟩) 1 1) (hq : (Lit.int k q).wf = true) (hlen : l.length ≤ 1000000)
    (h : ∀ v' w', Owns k e w' w.heap.size v' (l ++ [q]) → Below w.heap.size w w' → wpList P ops Q rest (a.put o.dst v') w') :
    wpList P ops Q (o :: rest) a (w.alloc (.cells #[.int k q] e)) := by
  refine wpList_plain hg fun K hK => ?_
  obtain ⟨v', w', hr, h1, h2⟩ := run_app_full (P := P) hT hI hby o.type w a0 n l hrd q hq hlen
  unfold Oper.wp execOp
  simp only [ho, resolve, invoke, builtin, Sem.run_bind, Sem.run_pure, Result.andThen_ok, List.map_toArray, List.map_cons, List.map_nil, hs, hx, hr]
  exact hK _ _ (h v' w' h1 h2)
end
end Go.Proofs.Ytcbnebcooiagmaa
