/- The walk of almanaclaw3.CodecBack. -/
import Derived.Test.YtnlhpfcepbmbfaaItemsW
import Derived.Test.YtnlhpfcepbmbfaaFrameLaw
import Derived.Test.YtnlhpfcepbmbfaaKnown3
import Derived.Test.YtnlhpfcepbmbfaaOrder
namespace Go.Proofs.Ytnlhpfcepbmbfaa
open Go.RowKit
set_option linter.unusedSimpArgs false in
set_option linter.unusedVariables false in
set_option maxRecDepth 100000 in
set_option maxHeartbeats 16000000 in
theorem back_main (a : Option Addr) (n c : Nat) (L : List ItemP) (kx : Int) (pa : Option Addr) (pn pc : Nat) (pl : List Int) (ma : Option Addr) (mn mc : Nat) (ml : List Int) (w0 : World) (h : ItemsAt w0 a n L) (hb : sumItem L + n ≤ 8192) (hk : (Lit.int .u8 kx).wf = true) (hp : RdAt .u8 w0 pa pn pc pl) (hm : RdAt .u8 w0 ma mn mc ml) (hpn : pn ≤ 8192) (hmn : mn ≤ 8192) :
    Calls Try.prog 8 #[.slice a n c, .int .u8 kx, .slice pa pn pc, .slice ma mn mc] w0 fun e w' => e = .returned (.bool true) ∧ Below w0.heap.size w0 w' := by
  have H := Lib.hid h
  have HLN := Lib.hid h.len
  have RP := Lib.hid hp
  have RM := Lib.hid hm
  have hdec : decide (((sumItem L + n : Nat) : Int) ≤ (8192 : Int)) = true := decide_eq_true (by omega)
  have HDC := Lib.hid hdec
  have d1 : decide ((8192 : Int) < pn) = false := decide_eq_false (by omega)
  have d2 : decide ((8192 : Int) < mn) = false := decide_eq_false (by omega)
  have HTOT : Hid ((itemsF L).length ≤ 81920) := by
    show _ ≤ _
    have h1 := itemsF_len L
    rw [h.len] at h1
    omega
  have HPL := Lib.hid hp.len
  have HML := Lib.hid hm.len
  clear h hp hm hdec
  go_enter Try.func8, Try.ntmps8
  go_wp2_with fail
  refine (known3 _).mono ?_
  rintro e w1 ⟨rfl, hb1⟩
  have B1 := Lib.hid hb1
  clear hb1
  go_wp2_with fail
  refine (ifew_any a n c L w1 (H.out.below' B1.out) (by omega)).mono ?_
  rintro e w2 ⟨rfl, hb2⟩
  rw [HDC.out]
  have B2 := Lib.hid (Below.call B1.out hb2)
  clear hb2
  go_wp2_with fail
  refine (written_any a n c L w2 (H.out.below' B2.out) hb).mono ?_
  rintro e w3 ⟨x, y, rfl, hx, hy, hb3⟩
  obtain ⟨m, hm⟩ : ∃ m, (itemsF L).length = m := ⟨_, rfl⟩
  obtain ⟨ax, cx, rfl⟩ := hx.shapeN m hm
  obtain ⟨ay, cy, rfl⟩ := hy.shapeN m hm
  have HX := Lib.hid hx.rd
  have HMX := Lib.hid hm
  have B3 := Lib.hid (Below.call B2.out hb3)
  clear hb3 hx hy hm
  go_wp2_with fail
  refine (newreader_any ax m cx (itemsF L) w3 HX.out (by have := HTOT.out; rw [HMX.out] at this; omega)).mono ?_
  rintro e w4 ⟨gP, rfl, hh1, hr4, hb4⟩
  have B4 := Lib.hid (Below.call B3.out hb4)
  have HLO : Hid (w0.heap.size ≤ gP) := Nat.le_trans B3.out.size hh1
  obtain ⟨B, hB⟩ : ∃ B, w3.heap.size = B := ⟨_, rfl⟩
  rw [hB] at hr4
  have R4 := Lib.hid hr4
  clear hr4 hb4 hh1 hB HX HMX
  go_wp2_with fail
  go_loopw [12] (fun i wr => ∃ (k : Nat), k ≤ n ∧ i = .int .i64 k ∧ RIn B wr gP (itemsF (L.drop k)) 0 ∧ Below w0.heap.size w0 wr) (fun i _ => n - (intOf i).toNat)
  case atStart => exact ⟨0, by omega, rfl, by rw [List.drop_zero]; exact R4.out, B4.out⟩
  case round =>
    clear R4 B4
    obtain ⟨k, hkn', rfl, hrk, hbk⟩ := hrel
    have RK := Lib.hid hrk
    have BK := Lib.hid hbk
    clear hrk hbk
    by_cases hkn : k < n
    · obtain ⟨A, hA⟩ : ∃ A, L[k]? = some A := ⟨_, List.getElem?_eq_getElem (by rw [HLN.out]; exact hkn)⟩
      obtain ⟨b, o, rfl, hat⟩ := H.out.at_ k A hA
      obtain ⟨⟨a2, n2, c2, a3, n3, c3, e0, e1, e2, e3, e4, e5, r2, r3⟩, hwf⟩ := hat
      have hsk := sumItem_take hA
      have hle := sumItem_le (L := L) (k + 1)
      obtain ⟨kd, x, bs, ls, lo, hi⟩ := A
      replace hsk : sumItem (L.take (k + 1)) = sumItem (L.take k) + (bs.length + ls.length) := hsk
      replace r2 : RdAt .u8 w0 a2 n2 c2 bs := r2
      replace r3 : RdAt .i64 w0 a3 n3 c3 ls := r3
      have E1 := Lib.hid e1
      have E2 := Lib.hid e2
      have E3 := Lib.hid e3
      have R2 := Lib.hid r2
      have R3 := Lib.hid r3
      have L3 := Lib.hid r3.len
      have HX := Lib.hid (wf_i64_bd (x := x) hwf.2.1)
      have HSZ : Hid (bs.length ≤ 8192 ∧ ls.length ≤ 8192) := ⟨by omega, by omega⟩
      obtain ⟨l, hl⟩ : ∃ l, itemsF (L.drop k) = l := ⟨_, rfl⟩
      obtain ⟨l1, hl1⟩ : ∃ l1, itemsF (L.drop (k + 1)) = l1 := ⟨_, rfl⟩
      have HD : Hid (l = itemF ⟨kd, x, bs, ls, lo, hi⟩ ++ l1) := by show _ = _; rw [← hl, ← hl1]; exact itemsF_drop hA
      have HLL : Hid (l.length ≤ 1000000) := by show _ ≤ _; rw [← hl]; have := itemsF_drop_len (L := L) k; have := HTOT.out; omega
      rw [hl] at RK
      have HL1 := Lib.hid hl1
      replace e0 : wr.cell? ⟨b, o + k * 6, none⟩ = some (.int .i64 kd) := by rw [← e0]; exact World.cell?_of_block (a := ⟨b, o + k * 6, none⟩) (BK.out.block b (block_lt_of_cell e0))
      clear hA hwf e1 e2 e3 e4 e5 r2 r3 hsk hle hl hl1
      have HP : Hid (RIn B wr.drew gP l 0) := RK.out.below ⟨rfl, rfl, rfl, Nat.le_refl _, fun _ _ => rfl⟩
      have HBW : Hid (Below w0.heap.size w0 wr.drew) := ⟨BK.out.os, BK.out.tape, BK.out.output, BK.out.size, BK.out.block⟩
      have HLN0 := True.intro
      by_cases q1 : kd = 1
      · subst q1
        have HT : Hid (rdFrom 0 0 l (rdInt l) = ⟨0, x, l1⟩) := by
          show _ = _
          rw [rdFrom_ok, HD.out]
          unfold itemF; rw [if_pos rfl]; exact rdInt_varF HX.out.1 HX.out.2 l1
        clear HLN0
        go_wp2_with fail
        · skip
          refine' reg_order [eqV _, (fun v w => v = .int .i64 x ∧ RIn B w gP l1 0), eqV _, eqV _, eqV _, eqV _, eqV _, eqV _] [(1, RGo gP)] [(1, fun w => RIn B w gP l 0), (6, fun w => Below w0.heap.size w0 w), (8, fun w => Below w0.heap.size w0 w)] [53, 54, 55, 56, 57, 58, 59, 60] [[], [0], [], [], [2, 3], [4], [5], [1, 6]] [0, 1, 2, 3, 4, 5, 6, 7] 8 (by kernel_rfl) ⟨eqV_stays _, fun _ _ _ p b => ⟨p.1, p.2.below b⟩, eqV_stays _, eqV_stays _, eqV_stays _, eqV_stays _, eqV_stays _, eqV_stays _, trivial⟩ ⟨⟨.inl (eqV_stays _), .inr (.inr rfl), .inl (eqV_stays _), .inl (eqV_stays _), .inl (eqV_stays _), .inl (eqV_stays _), .inl (eqV_stays _), .inl (eqV_stays _), trivial⟩, trivial⟩ ⟨fun _ _ p b => p.below b, fun _ _ p b => Below.call p b, fun _ _ p b => Below.call p b, trivial⟩ ⟨⟨.inr (.inr rfl), .inl (fun _ _ p g => below_rgo p g HLO.out), .inl (fun _ _ p g => below_rgo p g HLO.out), trivial⟩, trivial⟩ ⟨HP.out, HBW.out, HBW.out, trivial⟩ 123 rfl (by kernel_rfl) (by kernel_rfl) rfl rfl 8 rfl ?q1obl ?q1fin
          case q1obl =>
            refine And.intro ?q1o0 (And.intro ?q1o1 (And.intro ?q1o2 (And.intro ?q1o3 (And.intro ?q1o4 (And.intro ?q1o5 (And.intro ?q1o6 (And.intro ?q1o7 (True.intro))))))))
            case q1o0 =>
              intro w1 hI
              refine turn2_on (by rfl) ?_
              intro K hK
              go_simp
              refine hK _ _ ⟨rfl, Kept.refl _, ?_⟩
              show _ = _
              simp only [List.getD_cons_zero, List.getD_cons_succ, Array.getD_eq_getD_getElem?, List.getElem?_toArray, List.getElem?_cons_zero, List.getElem?_cons_succ, Option.getD_some]
              rfl
            case q1o1 =>
              intro w1 hI
              replace hI : (fun w => RIn B w gP l 0) w1 := hI
              intro v0 h0
              change _ = _ at h0
              subst v0
              refine turn2_on (by rfl) ?_
              intro K hK
              simp only [List.getD_cons_zero, List.getD_cons_succ, List.setIfInBounds_toArray, List.set_cons_zero, List.set_cons_succ]
              have HI := Lib.hid hI
              have HRW := Lib.hid hI.row
              clear hI
              go_simp
              refine Calls.mono (rInt_any gP l 0 w1 HI.out) ?_
              rintro e9 w9 ⟨hg9, hr9, v9, rfl, ho9⟩
              rw [HT.out] at hr9 ho9
              refine hK _ _ ⟨rfl, ⟨hg9, HRW.out⟩, ?_⟩
              show _ = _ ∧ _
              simp only [List.getD_cons_zero, List.getD_cons_succ, Array.getD_eq_getD_getElem?, List.getElem?_toArray, List.getElem?_cons_zero, List.getElem?_cons_succ, Option.getD_some]
              exact ⟨ho9, hr9⟩
            case q1o2 =>
              intro w1 hI
              refine turn2_on (by rfl) ?_
              intro K hK
              go_simp
              refine hK _ _ ⟨rfl, Kept.refl _, ?_⟩
              show _ = _
              simp only [List.getD_cons_zero, List.getD_cons_succ, Array.getD_eq_getD_getElem?, List.getElem?_toArray, List.getElem?_cons_zero, List.getElem?_cons_succ, Option.getD_some]
              rfl
            case q1o3 =>
              intro w1 hI
              refine turn2_on (by rfl) ?_
              intro K hK
              go_simp
              refine hK _ _ ⟨rfl, Kept.refl _, ?_⟩
              show _ = _
              simp only [List.getD_cons_zero, List.getD_cons_succ, Array.getD_eq_getD_getElem?, List.getElem?_toArray, List.getElem?_cons_zero, List.getElem?_cons_succ, Option.getD_some]
              rfl
            case q1o4 =>
              intro w1 hI
              intro v2 h2
              change _ = _ at h2
              subst v2
              intro v3 h3
              change _ = _ at h3
              subst v3
              refine turn2_on (by rfl) ?_
              intro K hK
              simp only [List.getD_cons_zero, List.getD_cons_succ, List.setIfInBounds_toArray, List.set_cons_zero, List.set_cons_succ]
              go_simp
              refine hK _ _ ⟨rfl, Kept.refl _, ?_⟩
              show _ = _
              simp only [List.getD_cons_zero, List.getD_cons_succ, Array.getD_eq_getD_getElem?, List.getElem?_toArray, List.getElem?_cons_zero, List.getElem?_cons_succ, Option.getD_some]
              rfl
            case q1o5 =>
              intro w1 hI
              intro v4 h4
              change _ = _ at h4
              subst v4
              refine turn2_on (by rfl) ?_
              intro K hK
              simp only [List.getD_cons_zero, List.getD_cons_succ, List.setIfInBounds_toArray, List.set_cons_zero, List.set_cons_succ]
              go_simp
              refine hK _ _ ⟨rfl, Kept.refl _, ?_⟩
              show _ = _
              simp only [List.getD_cons_zero, List.getD_cons_succ, Array.getD_eq_getD_getElem?, List.getElem?_toArray, List.getElem?_cons_zero, List.getElem?_cons_succ, Option.getD_some]
              rfl
            case q1o6 =>
              intro w1 hI
              replace hI : (fun w => Below w0.heap.size w0 w) w1 := hI
              intro v5 h5
              change _ = _ at h5
              subst v5
              refine turn2_on (by rfl) ?_
              intro K hK
              simp only [List.getD_cons_zero, List.getD_cons_succ, List.setIfInBounds_toArray, List.set_cons_zero, List.set_cons_succ]
              have HBI := Lib.hid hI
              clear hI
              have c9 : w1.cell? ⟨b, o + k * 6 + 1, none⟩ = some (.int .i64 x) := by rw [← E1.out]; exact World.cell?_of_block (a := ⟨b, o + k * 6 + 1, none⟩) (HBI.out.block b (block_lt_of_cell E1.out))
              go_simp
              refine hK _ _ ⟨rfl, Kept.refl _, ?_⟩
              show _ = _
              simp only [List.getD_cons_zero, List.getD_cons_succ, Array.getD_eq_getD_getElem?, List.getElem?_toArray, List.getElem?_cons_zero, List.getElem?_cons_succ, Option.getD_some]
              rfl
            case q1o7 =>
              intro w1 hI
              intro v1 h1
              obtain ⟨rfl, k1⟩ := h1
              intro v6 h6
              change _ = _ at h6
              subst v6
              refine turn2_on (by rfl) ?_
              intro K hK
              simp only [List.getD_cons_zero, List.getD_cons_succ, List.setIfInBounds_toArray, List.set_cons_zero, List.set_cons_succ]
              go_simp
              refine hK _ _ ⟨rfl, Kept.refl _, ?_⟩
              show _ = _
              simp only [List.getD_cons_zero, List.getD_cons_succ, Array.getD_eq_getD_getElem?, List.getElem?_toArray, List.getElem?_cons_zero, List.getElem?_cons_succ, Option.getD_some]
              rfl
          intro w1 hI
          replace hI : (fun w => Below w0.heap.size w0 w) w1 := hI
          intro v0 h0
          change _ = _ at h0
          subst v0
          intro v1 h1
          obtain ⟨rfl, k1⟩ := h1
          intro v2 h2
          change _ = _ at h2
          subst v2
          intro v3 h3
          change _ = _ at h3
          subst v3
          intro v4 h4
          change _ = _ at h4
          subst v4
          intro v5 h5
          change _ = _ at h5
          subst v5
          intro v6 h6
          change _ = _ at h6
          subst v6
          intro v7 h7
          change _ = _ at h7
          subst v7
          simp only [Given, List.getD_cons_zero, List.getD_cons_succ, List.setIfInBounds_toArray, List.set_cons_zero, List.set_cons_succ]
          have HK := Lib.hid k1
          have HBN := Lib.hid hI
          clear k1 hI
          go_wp2_with fail
          go_roundw
          case rel => exact ⟨k + 1, by omega, by go_num, by rw [HL1.out]; exact HK.out, HBN.out⟩
          case measure => simp [intOf] <;> omega
      have p1 : (kd == (1 : Int)) = false := by simpa using q1
      by_cases q2 : kd = 2
      · subst q2
        have HT : Hid (rdFrom 0 [] l (rdBytes 8192 l) = ⟨0, bs, l1⟩) := by
          show _ = _
          rw [rdFrom_ok, HD.out]
          unfold itemF; rw [if_neg (show ¬ (2 : Int) = 1 by decide), if_pos rfl]; exact rdBytes_back (bs := bs) (by have := HSZ.out.1; omega) (by have := HSZ.out.1; omega) l1
        clear q1
        go_wp2_with fail
        · skip
          refine' reg_order [eqV _, (fun v w => isBytes bs v w ∧ RIn B w gP l1 0), eqV _, eqV _, eqV _, eqV _, eqV _, eqV _, eqV _, eqV _] [(1, RGo gP)] [(1, fun w => RIn B w gP l 0), (7, fun w => Below w0.heap.size w0 w), (8, fun w => Below w0.heap.size w0 w), (10, fun w => Below w0.heap.size w0 w)] [63, 64, 65, 66, 67, 68, 69, 70, 71, 72] [[], [0], [1], [], [], [3, 4], [5], [6], [7], [2, 8]] [0, 1, 2, 3, 4, 5, 6, 7, 8, 9] 10 (by kernel_rfl) ⟨eqV_stays _, fun _ _ _ p b => ⟨p.1.below b, p.2.below b⟩, eqV_stays _, eqV_stays _, eqV_stays _, eqV_stays _, eqV_stays _, eqV_stays _, eqV_stays _, eqV_stays _, trivial⟩ ⟨⟨.inl (eqV_stays _), .inr (.inr rfl), .inl (eqV_stays _), .inl (eqV_stays _), .inl (eqV_stays _), .inl (eqV_stays _), .inl (eqV_stays _), .inl (eqV_stays _), .inl (eqV_stays _), .inl (eqV_stays _), trivial⟩, trivial⟩ ⟨fun _ _ p b => p.below b, fun _ _ p b => Below.call p b, fun _ _ p b => Below.call p b, fun _ _ p b => Below.call p b, trivial⟩ ⟨⟨.inr (.inr rfl), .inl (fun _ _ p g => below_rgo p g HLO.out), .inl (fun _ _ p g => below_rgo p g HLO.out), .inl (fun _ _ p g => below_rgo p g HLO.out), trivial⟩, trivial⟩ ⟨HP.out, HBW.out, HBW.out, HBW.out, trivial⟩ 123 rfl (by kernel_rfl) (by kernel_rfl) rfl rfl 10 rfl ?q2obl ?q2fin
          case q2obl =>
            refine And.intro ?q2o0 (And.intro ?q2o1 (And.intro ?q2o2 (And.intro ?q2o3 (And.intro ?q2o4 (And.intro ?q2o5 (And.intro ?q2o6 (And.intro ?q2o7 (And.intro ?q2o8 (And.intro ?q2o9 (True.intro))))))))))
            case q2o0 =>
              intro w1 hI
              refine turn2_on (by rfl) ?_
              intro K hK
              go_simp
              refine hK _ _ ⟨rfl, Kept.refl _, ?_⟩
              show _ = _
              simp only [List.getD_cons_zero, List.getD_cons_succ, Array.getD_eq_getD_getElem?, List.getElem?_toArray, List.getElem?_cons_zero, List.getElem?_cons_succ, Option.getD_some]
              rfl
            case q2o1 =>
              intro w1 hI
              replace hI : (fun w => RIn B w gP l 0) w1 := hI
              intro v0 h0
              change _ = _ at h0
              subst v0
              refine turn2_on (by rfl) ?_
              intro K hK
              simp only [List.getD_cons_zero, List.getD_cons_succ, List.setIfInBounds_toArray, List.set_cons_zero, List.set_cons_succ]
              have HI := Lib.hid hI
              have HRW := Lib.hid hI.row
              clear hI
              go_simp
              refine Calls.mono (rBytes_any gP 8192 l 0 w1 HI.out HLL.out) ?_
              rintro e9 w9 ⟨hg9, hr9, v9, rfl, ho9⟩
              rw [HT.out] at hr9 ho9
              refine hK _ _ ⟨rfl, ⟨hg9, HRW.out⟩, ?_⟩
              show isBytes _ _ _ ∧ _
              simp only [List.getD_cons_zero, List.getD_cons_succ, Array.getD_eq_getD_getElem?, List.getElem?_toArray, List.getElem?_cons_zero, List.getElem?_cons_succ, Option.getD_some]
              exact ⟨Owns.isBytes ho9, hr9⟩
            case q2o2 =>
              intro w1 hI
              intro v1 h1
              obtain ⟨⟨a1, n1, c1, rfl, h1⟩, k1⟩ := h1
              refine turn2_on (by rfl) ?_
              intro K hK
              simp only [List.getD_cons_zero, List.getD_cons_succ, List.setIfInBounds_toArray, List.set_cons_zero, List.set_cons_succ]
              refine wp_conv 65 rfl u8T s8 su _ rfl rfl h1 ?_
              refine hK _ _ ⟨rfl, Kept.refl _, ?_⟩
              show _ = _
              simp only [List.getD_cons_zero, List.getD_cons_succ, Array.getD_eq_getD_getElem?, List.getElem?_toArray, List.getElem?_cons_zero, List.getElem?_cons_succ, Option.getD_some]
              rfl
            case q2o3 =>
              intro w1 hI
              refine turn2_on (by rfl) ?_
              intro K hK
              go_simp
              refine hK _ _ ⟨rfl, Kept.refl _, ?_⟩
              show _ = _
              simp only [List.getD_cons_zero, List.getD_cons_succ, Array.getD_eq_getD_getElem?, List.getElem?_toArray, List.getElem?_cons_zero, List.getElem?_cons_succ, Option.getD_some]
              rfl
            case q2o4 =>
              intro w1 hI
              refine turn2_on (by rfl) ?_
              intro K hK
              go_simp
              refine hK _ _ ⟨rfl, Kept.refl _, ?_⟩
              show _ = _
              simp only [List.getD_cons_zero, List.getD_cons_succ, Array.getD_eq_getD_getElem?, List.getElem?_toArray, List.getElem?_cons_zero, List.getElem?_cons_succ, Option.getD_some]
              rfl
            case q2o5 =>
              intro w1 hI
              intro v3 h3
              change _ = _ at h3
              subst v3
              intro v4 h4
              change _ = _ at h4
              subst v4
              refine turn2_on (by rfl) ?_
              intro K hK
              simp only [List.getD_cons_zero, List.getD_cons_succ, List.setIfInBounds_toArray, List.set_cons_zero, List.set_cons_succ]
              go_simp
              refine hK _ _ ⟨rfl, Kept.refl _, ?_⟩
              show _ = _
              simp only [List.getD_cons_zero, List.getD_cons_succ, Array.getD_eq_getD_getElem?, List.getElem?_toArray, List.getElem?_cons_zero, List.getElem?_cons_succ, Option.getD_some]
              rfl
            case q2o6 =>
              intro w1 hI
              intro v5 h5
              change _ = _ at h5
              subst v5
              refine turn2_on (by rfl) ?_
              intro K hK
              simp only [List.getD_cons_zero, List.getD_cons_succ, List.setIfInBounds_toArray, List.set_cons_zero, List.set_cons_succ]
              go_simp
              refine hK _ _ ⟨rfl, Kept.refl _, ?_⟩
              show _ = _
              simp only [List.getD_cons_zero, List.getD_cons_succ, Array.getD_eq_getD_getElem?, List.getElem?_toArray, List.getElem?_cons_zero, List.getElem?_cons_succ, Option.getD_some]
              rfl
            case q2o7 =>
              intro w1 hI
              replace hI : (fun w => Below w0.heap.size w0 w) w1 := hI
              intro v6 h6
              change _ = _ at h6
              subst v6
              refine turn2_on (by rfl) ?_
              intro K hK
              simp only [List.getD_cons_zero, List.getD_cons_succ, List.setIfInBounds_toArray, List.set_cons_zero, List.set_cons_succ]
              have HBI := Lib.hid hI
              clear hI
              have c9 : w1.cell? ⟨b, o + k * 6 + 2, none⟩ = some (.slice a2 n2 c2) := by rw [← E2.out]; exact World.cell?_of_block (a := ⟨b, o + k * 6 + 2, none⟩) (HBI.out.block b (block_lt_of_cell E2.out))
              go_simp
              refine hK _ _ ⟨rfl, Kept.refl _, ?_⟩
              show _ = _
              simp only [List.getD_cons_zero, List.getD_cons_succ, Array.getD_eq_getD_getElem?, List.getElem?_toArray, List.getElem?_cons_zero, List.getElem?_cons_succ, Option.getD_some]
              rfl
            case q2o8 =>
              intro w1 hI
              replace hI : (fun w => Below w0.heap.size w0 w) w1 := hI
              intro v7 h7
              change _ = _ at h7
              subst v7
              refine turn2_on (by rfl) ?_
              intro K hK
              simp only [List.getD_cons_zero, List.getD_cons_succ, List.setIfInBounds_toArray, List.set_cons_zero, List.set_cons_succ]
              refine wp_conv 71 rfl u8T s8 su _ rfl rfl (R2.out.below hI) ?_
              refine hK _ _ ⟨rfl, Kept.refl _, ?_⟩
              show _ = _
              simp only [List.getD_cons_zero, List.getD_cons_succ, Array.getD_eq_getD_getElem?, List.getElem?_toArray, List.getElem?_cons_zero, List.getElem?_cons_succ, Option.getD_some]
              rfl
            case q2o9 =>
              intro w1 hI
              intro v2 h2
              change _ = _ at h2
              subst v2
              intro v8 h8
              change _ = _ at h8
              subst v8
              refine turn2_on (by rfl) ?_
              intro K hK
              simp only [List.getD_cons_zero, List.getD_cons_succ, List.setIfInBounds_toArray, List.set_cons_zero, List.set_cons_succ]
              go_simp
              refine hK _ _ ⟨rfl, Kept.refl _, ?_⟩
              show _ = _
              simp only [List.getD_cons_zero, List.getD_cons_succ, Array.getD_eq_getD_getElem?, List.getElem?_toArray, List.getElem?_cons_zero, List.getElem?_cons_succ, Option.getD_some]
              rfl
          intro w1 hI
          replace hI : (fun w => Below w0.heap.size w0 w) w1 := hI
          intro v0 h0
          change _ = _ at h0
          subst v0
          intro v1 h1
          obtain ⟨⟨a1, n1, c1, rfl, h1⟩, k1⟩ := h1
          intro v2 h2
          change _ = _ at h2
          subst v2
          intro v3 h3
          change _ = _ at h3
          subst v3
          intro v4 h4
          change _ = _ at h4
          subst v4
          intro v5 h5
          change _ = _ at h5
          subst v5
          intro v6 h6
          change _ = _ at h6
          subst v6
          intro v7 h7
          change _ = _ at h7
          subst v7
          intro v8 h8
          change _ = _ at h8
          subst v8
          intro v9 h9
          change _ = _ at h9
          subst v9
          simp only [Given, List.getD_cons_zero, List.getD_cons_succ, List.setIfInBounds_toArray, List.set_cons_zero, List.set_cons_succ]
          have HK := Lib.hid k1
          have HBN := Lib.hid hI
          clear k1 hI h1
          go_wp2_with fail
          go_roundw
          case rel => exact ⟨k + 1, by omega, by go_num, by rw [HL1.out]; exact HK.out, HBN.out⟩
          case measure => simp [intOf] <;> omega
      have p2 : (kd == (2 : Int)) = false := by simpa using q2
      by_cases q3 : kd = 3
      · subst q3
        have HT : Hid (rdFrom 0 [] l (rdList 8192 l) = ⟨0, ls, l1⟩) := by
          show _ = _
          rw [rdFrom_ok, HD.out]
          unfold itemF; rw [if_neg (show ¬ (3 : Int) = 1 by decide), if_neg (show ¬ (3 : Int) = 2 by decide), if_pos rfl]; exact rdList_back (ls := ls) R3.out.wf (by have := HSZ.out.2; omega) (by have := HSZ.out.2; omega) l1
        clear q1 q2
        go_wp2_with fail
        · skip
          refine' reg_order [eqV _, (fun v w => (∃ a c, v = Value.slice a n3 c ∧ RdAt .i64 w a n3 c ls) ∧ RIn B w gP l1 0), eqV _, eqV _, eqV _, eqV _, eqV _, eqV _, eqV _] [(1, RGo gP)] [(1, fun w => RIn B w gP l 0), (6, fun w => Below w0.heap.size w0 w), (7, fun w => Below w0.heap.size w0 w), (9, fun w => Below w0.heap.size w0 w)] [75, 76, 77, 78, 79, 80, 81, 82, 83] [[], [0], [], [], [2, 3], [4], [5], [1, 6], [7]] [0, 1, 2, 3, 4, 5, 6, 7, 8] 9 (by kernel_rfl) ⟨eqV_stays _, fun _ _ _ ⟨⟨a, c, e, r⟩, q⟩ b => ⟨⟨a, c, e, r.below b⟩, q.below b⟩, eqV_stays _, eqV_stays _, eqV_stays _, eqV_stays _, eqV_stays _, eqV_stays _, eqV_stays _, trivial⟩ ⟨⟨.inl (eqV_stays _), .inr (.inr rfl), .inl (eqV_stays _), .inl (eqV_stays _), .inl (eqV_stays _), .inl (eqV_stays _), .inl (eqV_stays _), .inl (eqV_stays _), .inl (eqV_stays _), trivial⟩, trivial⟩ ⟨fun _ _ p b => p.below b, fun _ _ p b => Below.call p b, fun _ _ p b => Below.call p b, fun _ _ p b => Below.call p b, trivial⟩ ⟨⟨.inr (.inr rfl), .inl (fun _ _ p g => below_rgo p g HLO.out), .inl (fun _ _ p g => below_rgo p g HLO.out), .inl (fun _ _ p g => below_rgo p g HLO.out), trivial⟩, trivial⟩ ⟨HP.out, HBW.out, HBW.out, HBW.out, trivial⟩ 123 rfl (by kernel_rfl) (by kernel_rfl) rfl rfl 9 rfl ?q3obl ?q3fin
          case q3obl =>
            refine And.intro ?q3o0 (And.intro ?q3o1 (And.intro ?q3o2 (And.intro ?q3o3 (And.intro ?q3o4 (And.intro ?q3o5 (And.intro ?q3o6 (And.intro ?q3o7 (And.intro ?q3o8 (True.intro)))))))))
            case q3o0 =>
              intro w1 hI
              refine turn2_on (by rfl) ?_
              intro K hK
              go_simp
              refine hK _ _ ⟨rfl, Kept.refl _, ?_⟩
              show _ = _
              simp only [List.getD_cons_zero, List.getD_cons_succ, Array.getD_eq_getD_getElem?, List.getElem?_toArray, List.getElem?_cons_zero, List.getElem?_cons_succ, Option.getD_some]
              rfl
            case q3o1 =>
              intro w1 hI
              replace hI : (fun w => RIn B w gP l 0) w1 := hI
              intro v0 h0
              change _ = _ at h0
              subst v0
              refine turn2_on (by rfl) ?_
              intro K hK
              simp only [List.getD_cons_zero, List.getD_cons_succ, List.setIfInBounds_toArray, List.set_cons_zero, List.set_cons_succ]
              have HI := Lib.hid hI
              have HRW := Lib.hid hI.row
              clear hI
              go_simp
              refine Calls.mono (rList_any gP 8192 l 0 w1 HI.out HLL.out) ?_
              rintro e9 w9 ⟨hg9, hr9, v9, rfl, ho9⟩
              rw [HT.out] at hr9 ho9
              refine hK _ _ ⟨rfl, ⟨hg9, HRW.out⟩, ?_⟩
              obtain ⟨a8, c8, rfl⟩ := Owns.shapeN ho9 n3 L3.out
              show (∃ a c, _ = Value.slice a n3 c ∧ _) ∧ _
              simp only [List.getD_cons_zero, List.getD_cons_succ, Array.getD_eq_getD_getElem?, List.getElem?_toArray, List.getElem?_cons_zero, List.getElem?_cons_succ, Option.getD_some]
              exact ⟨⟨a8, c8, rfl, Owns.rd ho9⟩, hr9⟩
            case q3o2 =>
              intro w1 hI
              refine turn2_on (by rfl) ?_
              intro K hK
              go_simp
              refine hK _ _ ⟨rfl, Kept.refl _, ?_⟩
              show _ = _
              simp only [List.getD_cons_zero, List.getD_cons_succ, Array.getD_eq_getD_getElem?, List.getElem?_toArray, List.getElem?_cons_zero, List.getElem?_cons_succ, Option.getD_some]
              rfl
            case q3o3 =>
              intro w1 hI
              refine turn2_on (by rfl) ?_
              intro K hK
              go_simp
              refine hK _ _ ⟨rfl, Kept.refl _, ?_⟩
              show _ = _
              simp only [List.getD_cons_zero, List.getD_cons_succ, Array.getD_eq_getD_getElem?, List.getElem?_toArray, List.getElem?_cons_zero, List.getElem?_cons_succ, Option.getD_some]
              rfl
            case q3o4 =>
              intro w1 hI
              intro v2 h2
              change _ = _ at h2
              subst v2
              intro v3 h3
              change _ = _ at h3
              subst v3
              refine turn2_on (by rfl) ?_
              intro K hK
              simp only [List.getD_cons_zero, List.getD_cons_succ, List.setIfInBounds_toArray, List.set_cons_zero, List.set_cons_succ]
              go_simp
              refine hK _ _ ⟨rfl, Kept.refl _, ?_⟩
              show _ = _
              simp only [List.getD_cons_zero, List.getD_cons_succ, Array.getD_eq_getD_getElem?, List.getElem?_toArray, List.getElem?_cons_zero, List.getElem?_cons_succ, Option.getD_some]
              rfl
            case q3o5 =>
              intro w1 hI
              intro v4 h4
              change _ = _ at h4
              subst v4
              refine turn2_on (by rfl) ?_
              intro K hK
              simp only [List.getD_cons_zero, List.getD_cons_succ, List.setIfInBounds_toArray, List.set_cons_zero, List.set_cons_succ]
              go_simp
              refine hK _ _ ⟨rfl, Kept.refl _, ?_⟩
              show _ = _
              simp only [List.getD_cons_zero, List.getD_cons_succ, Array.getD_eq_getD_getElem?, List.getElem?_toArray, List.getElem?_cons_zero, List.getElem?_cons_succ, Option.getD_some]
              rfl
            case q3o6 =>
              intro w1 hI
              replace hI : (fun w => Below w0.heap.size w0 w) w1 := hI
              intro v5 h5
              change _ = _ at h5
              subst v5
              refine turn2_on (by rfl) ?_
              intro K hK
              simp only [List.getD_cons_zero, List.getD_cons_succ, List.setIfInBounds_toArray, List.set_cons_zero, List.set_cons_succ]
              have HBI := Lib.hid hI
              clear hI
              have c9 : w1.cell? ⟨b, o + k * 6 + 3, none⟩ = some (.slice a3 n3 c3) := by rw [← E3.out]; exact World.cell?_of_block (a := ⟨b, o + k * 6 + 3, none⟩) (HBI.out.block b (block_lt_of_cell E3.out))
              go_simp
              refine hK _ _ ⟨rfl, Kept.refl _, ?_⟩
              show _ = _
              simp only [List.getD_cons_zero, List.getD_cons_succ, Array.getD_eq_getD_getElem?, List.getElem?_toArray, List.getElem?_cons_zero, List.getElem?_cons_succ, Option.getD_some]
              rfl
            case q3o7 =>
              intro w1 hI
              replace hI : (fun w => Below w0.heap.size w0 w) w1 := hI
              intro v1 h1
              obtain ⟨⟨a1, c1, rfl, h1⟩, k1⟩ := h1
              intro v6 h6
              change _ = _ at h6
              subst v6
              refine turn2_on (by rfl) ?_
              intro K hK
              simp only [List.getD_cons_zero, List.getD_cons_succ, List.setIfInBounds_toArray, List.set_cons_zero, List.set_cons_succ]
              have HBI := Lib.hid hI
              clear hI
              go_simp
              refine Calls.mono (ints_same a1 n3 c1 a3 c3 ls w1 h1 (R3.out.below HBI.out)) ?_
              rintro e9 w9 ⟨rfl, hb9⟩
              refine hK _ _ ⟨rfl, hb9, ?_⟩
              show _ = _
              simp only [List.getD_cons_zero, List.getD_cons_succ, Array.getD_eq_getD_getElem?, List.getElem?_toArray, List.getElem?_cons_zero, List.getElem?_cons_succ, Option.getD_some]
              rfl
            case q3o8 =>
              intro w1 hI
              intro v7 h7
              change _ = _ at h7
              subst v7
              refine turn2_on (by rfl) ?_
              intro K hK
              simp only [List.getD_cons_zero, List.getD_cons_succ, List.setIfInBounds_toArray, List.set_cons_zero, List.set_cons_succ]
              go_simp
              refine hK _ _ ⟨rfl, Kept.refl _, ?_⟩
              show _ = _
              simp only [List.getD_cons_zero, List.getD_cons_succ, Array.getD_eq_getD_getElem?, List.getElem?_toArray, List.getElem?_cons_zero, List.getElem?_cons_succ, Option.getD_some]
              rfl
          intro w1 hI
          replace hI : (fun w => Below w0.heap.size w0 w) w1 := hI
          intro v0 h0
          change _ = _ at h0
          subst v0
          intro v1 h1
          obtain ⟨⟨a1, c1, rfl, h1⟩, k1⟩ := h1
          intro v2 h2
          change _ = _ at h2
          subst v2
          intro v3 h3
          change _ = _ at h3
          subst v3
          intro v4 h4
          change _ = _ at h4
          subst v4
          intro v5 h5
          change _ = _ at h5
          subst v5
          intro v6 h6
          change _ = _ at h6
          subst v6
          intro v7 h7
          change _ = _ at h7
          subst v7
          intro v8 h8
          change _ = _ at h8
          subst v8
          simp only [Given, List.getD_cons_zero, List.getD_cons_succ, List.setIfInBounds_toArray, List.set_cons_zero, List.set_cons_succ]
          have HK := Lib.hid k1
          have HBN := Lib.hid hI
          clear k1 hI h1
          go_wp2_with fail
          go_roundw
          case rel => exact ⟨k + 1, by omega, by go_num, by rw [HL1.out]; exact HK.out, HBN.out⟩
          case measure => simp [intOf] <;> omega
      have p3 : (kd == (3 : Int)) = false := by simpa using q3
      have HS0 : Hid (l = l1) := by show _ = _; rw [HD.out]; unfold itemF; rw [if_neg q1, if_neg q2, if_neg q3, List.nil_append]
      rw [HS0.out] at RK
      clear q1 q2 q3
      go_wp2_with fail
      go_roundw
      case rel => exact ⟨k + 1, by omega, by go_num, by rw [HL1.out]; exact RK.out, BK.out⟩
      case measure => simp [intOf] <;> omega
    · obtain rfl : k = n := by omega
      have hnil : L.drop k = [] := List.drop_of_length_le (by rw [HLN.out]; omega)
      rw [hnil] at RK
      obtain ⟨r1, r2, r3, r4⟩ := read_frame kx pl ml (by rw [HPL.out]; omega)
      have EE := Lib.hid r1
      have EP := Lib.hid r2
      have EK := Lib.hid r3
      have EN : Hid (frameN (frameL kx pl ++ ml) = ((13 + pn : Nat) : Int)) := by show _ = _; rw [r4, HPL.out]; omega
      have HKX := Lib.hid hk
      clear hnil r1 r2 r3 r4
      go_wp2_with fail
      refine (frame_any kx pa pn pc pl wr HKX.out (RP.out.below BK.out) (by omega)).mono ?_
      rintro e w5 ⟨v5, rfl, ho5, hb5⟩
      obtain ⟨a5, c5, rfl⟩ := ho5.shapeN (13 + pn) (by rw [frame_len, HPL.out])
      have O5 := Lib.hid ho5
      have B5 := Lib.hid (Below.call BK.out hb5)
      have RK5 := Lib.hid (RK.out.below hb5)
      clear ho5 hb5
      go_wp2_with (first | (at_builtin; refine app_all u8T u8I (by decide) rfl (.tmp 88) (.tmp 89) rfl _ w5.heap.size _ [] rfl (Owns.empty _ _ _ _ _ _) _ _ _ _ rfl (O5.out.rd.below ((Below.refl _ _).alloc (Nat.le_refl _) _)) (by simp; omega) (by simp) ?_; intro v6 w6 ho6 hg6; have hB6 := hg6.fromEmpty; rw [List.nil_append] at ho6; obtain ⟨a6, c6, rfl⟩ := ho6.shapeN (13 + pn) (by rw [frame_len, HPL.out]); have B6 := Lib.hid (Below.call B5.out hB6); have RM6 := Lib.hid (RM.out.below B6.out); have RK6 := Lib.hid (RK5.out.below hB6); have O6 := Lib.hid ho6; have hs6 := hB6.size; clear ho6 hg6 hB6) | (at_builtin; refine app_all u8T u8I (by decide) rfl (.tmp 90) (.tmp 91) rfl _ w5.heap.size _ _ rfl O6.out _ _ _ _ rfl RM6.out (by rw [frame_len, HPL.out]; omega) (by omega) ?_; intro v7 w7 ho7 hg7; obtain ⟨a7, c7, rfl⟩ := ho7.shapeN (13 + pn + mn) (by rw [List.length_append, frame_len, HPL.out, HML.out]); have hB7 : Below w5.heap.size w6 w7 := hg7.below (by omega) (fun g hg => (O6.out.at_base g hg).1); have B7 := Lib.hid (B6.out.trans (hB7.mono B5.out.size)); have RK7 := Lib.hid (RK6.out.belowB hB7 RK5.out.lt); have O7 := Lib.hid ho7; clear ho7 hg7 hB7))
      refine (readframe_any _ _ _ _ _ O7.out.rd (by omega)).mono ?_
      rintro e w8 ⟨v8, rfl, ho8, hb8⟩
      rw [EE.out, EN.out, EK.out]
      rw [EP.out] at ho8
      obtain ⟨a8, c8, rfl⟩ := ho8.shapeN pn HPL.out
      have B8 := Lib.hid (Below.call B7.out hb8)
      have RK8 := Lib.hid (RK7.out.below hb8)
      have k1 := conv_rd (P := Try.prog) u8T s8 su ho8.rd
      have k2 := conv_rd (P := Try.prog) u8T s8 su (RP.out.below B8.out)
      clear ho8 hb8
      go_wp2_with fail
      refine (rEnd_any gP _ 0 w8 RK8.out).mono ?_
      rintro e w9 ⟨rfl, rfl⟩
      rw [show rdEnd 0 (itemsF []) = 0 from rfl]
      go_wp2_with fail
      go_ret
      exact ⟨rfl, B8.out⟩
set_option linter.unusedSimpArgs false in
set_option linter.unusedVariables false in
set_option maxRecDepth 100000 in
set_option maxHeartbeats 16000000 in
theorem codecBack_walk (a : Option Addr) (n c : Nat) (L : List ItemP) (kx : Int) (pa : Option Addr) (pn pc : Nat) (pl : List Int) (ma : Option Addr) (mn mc : Nat) (ml : List Int) (w : World) (h : ItemsAt w a n L) (hb : sumItem L + n ≤ 1048576) (hk : (Lit.int .u8 kx).wf = true) (hp : RdAt .u8 w pa pn pc pl) (hm : RdAt .u8 w ma mn mc ml) :
    Calls Try.prog 8 #[.slice a n c, .int .u8 kx, .slice pa pn pc, .slice ma mn mc] w fun e w' => e = .returned (.bool true) ∧ Below w.heap.size w w' := by
  by_cases q1 : sumItem L + n ≤ 8192
  · by_cases q2 : pn ≤ 8192
    · by_cases q3 : mn ≤ 8192
      · exact back_main a n c L kx pa pn pc pl ma mn mc ml w h q1 hk hp hm q2 q3
      · have hdec : decide (((sumItem L + n : Nat) : Int) ≤ (8192 : Int)) = true := decide_eq_true (by omega)
        have HD := Lib.hid hdec
        have H := Lib.hid h
        have d1 : decide ((8192 : Int) < pn) = false := decide_eq_false (by omega)
        have d2 : decide ((8192 : Int) < mn) = true := decide_eq_true (by omega)
        clear hdec h hp hm
        go_enter Try.func8, Try.ntmps8
        go_wp2_with fail
        refine (known3 _).mono ?_
        rintro e w1 ⟨rfl, hb1⟩
        have B1 := Lib.hid hb1
        clear hb1
        go_wp2_with fail
        refine (ifew_any a n c L w1 (H.out.below' B1.out) (by omega)).mono ?_
        rintro e w2 ⟨rfl, hb2⟩
        rw [HD.out]
        have B2 := Lib.hid (Below.call B1.out hb2)
        clear hb2
        go_wp2_with fail
        go_ret
        exact ⟨rfl, B2.out⟩
    · have hdec : decide (((sumItem L + n : Nat) : Int) ≤ (8192 : Int)) = true := decide_eq_true (by omega)
      have HD := Lib.hid hdec
      have H := Lib.hid h
      have d1 : decide ((8192 : Int) < pn) = true := decide_eq_true (by omega)
      clear hdec h hp hm
      go_enter Try.func8, Try.ntmps8
      go_wp2_with fail
      refine (known3 _).mono ?_
      rintro e w1 ⟨rfl, hb1⟩
      have B1 := Lib.hid hb1
      clear hb1
      go_wp2_with fail
      refine (ifew_any a n c L w1 (H.out.below' B1.out) (by omega)).mono ?_
      rintro e w2 ⟨rfl, hb2⟩
      rw [HD.out]
      have B2 := Lib.hid (Below.call B1.out hb2)
      clear hb2
      go_wp2_with fail
      go_ret
      exact ⟨rfl, B2.out⟩
  · have hdec : decide (((sumItem L + n : Nat) : Int) ≤ (8192 : Int)) = false := decide_eq_false (by omega)
    have HD := Lib.hid hdec
    have H := Lib.hid h
    clear hdec h hp hm
    go_enter Try.func8, Try.ntmps8
    go_wp2_with fail
    refine (known3 _).mono ?_
    rintro e w1 ⟨rfl, hb1⟩
    have B1 := Lib.hid hb1
    clear hb1
    go_wp2_with fail
    refine (ifew_any a n c L w1 (H.out.below' B1.out) (by omega)).mono ?_
    rintro e w2 ⟨rfl, hb2⟩
    rw [HD.out]
    have B2 := Lib.hid (Below.call B1.out hb2)
    clear hb2
    go_wp2_with fail
    go_ret
    exact ⟨rfl, B2.out⟩
end Go.Proofs.Ytnlhpfcepbmbfaa
