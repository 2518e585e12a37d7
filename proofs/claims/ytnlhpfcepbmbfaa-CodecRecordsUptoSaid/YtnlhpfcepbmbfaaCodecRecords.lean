/- The walk of almanaclaw3.CodecRecords. -/
import Derived.Test.YtnlhpfcepbmbfaaRecTwo
import Derived.Test.YtnlhpfcepbmbfaaItemsW
import Derived.Test.YtnlhpfcepbmbfaaKnown3
import Derived.Test.YtnlhpfcepbmbfaaOrder
namespace Go.Proofs.Ytnlhpfcepbmbfaa
open Go.RowKit
set_option linter.unusedSimpArgs false in
set_option linter.unusedVariables false in
set_option maxRecDepth 100000 in
set_option maxHeartbeats 16000000 in
theorem records_main (a : Option Addr) (n c : Nat) (L : List ItemP) (ba : Option Addr) (bn bc : Nat) (bl : List Int) (most : Int) (w0 : World) (h : ItemsAt w0 a n L) (hb : sumItem L + n ≤ 8192) (hr : RdAt .u8 w0 ba bn bc bl) (hbn : bn ≤ 8192) (hmost : (Lit.int .i64 most).wf = true) :
    Calls Try.prog 7 #[.slice a n c, .slice ba bn bc, .int .i64 most] w0 fun e w' => e = .returned (.bool true) ∧ Below w0.heap.size w0 w' := by
  have H := Lib.hid h
  have HLN := Lib.hid h.len
  have R := Lib.hid hr
  have hdec : decide (((sumItem L + n : Nat) : Int) ≤ (8192 : Int)) = true := decide_eq_true (by omega)
  have HD := Lib.hid hdec
  have d1 : decide ((8192 : Int) < bn) = false := decide_eq_false (by omega)
  have hBL : bl.length ≤ 8192 := by rw [hr.len]; exact hbn
  have HBL := Lib.hid hBL
  clear h hr hdec hBL
  go_enter Try.func7, Try.ntmps7
  go_wp2_with fail
  refine (known3 _).mono ?_
  rintro e w1 ⟨rfl, hb1⟩
  have B1 := Lib.hid hb1
  clear hb1
  go_wp2_with fail
  refine (ifew_any a n c L w1 (H.out.below' B1.out) (by omega)).mono ?_
  rintro e w2 ⟨rfl, hb2⟩
  rw [HD.out]
  have B2 := Lib.hid (Below.call B1.out hb2)
  clear hb2
  go_wp2_with fail
  refine (written_any a n c L w2 (H.out.below' B2.out) hb).mono ?_
  rintro e w3 ⟨x, y, rfl, hx, hy, hb3⟩
  obtain ⟨m, hm⟩ : ∃ m, (itemsF L).length = m := ⟨_, rfl⟩
  obtain ⟨ax, cx, rfl⟩ := hx.shapeN m hm
  obtain ⟨ay, cy, rfl⟩ := hy.shapeN m hm
  have k1 := conv_rd (P := Try.prog) u8T s8 su hx.rd
  have k2 := conv_rd (P := Try.prog) u8T s8 su hy.rd
  have B3 := Lib.hid (Below.call B2.out hb3)
  clear hb3 hx hy hm
  go_wp2_with fail
  clear k1 k2
  refine (newreader_any ba bn bc bl w3 (R.out.below B3.out) (by omega)).mono ?_
  rintro e w4 ⟨gP, rfl, hh1, hr4, hb4⟩
  have B4 := Lib.hid (Below.call B3.out hb4)
  have hlo : w0.heap.size ≤ gP := Nat.le_trans B3.out.size hh1
  have hlt4 := hr4.lt
  obtain ⟨gQ, hh2⟩ : ∃ gQ, w4.heap.size = gQ := ⟨_, rfl⟩
  obtain ⟨B, hB⟩ : ∃ B, w3.heap.size = B := ⟨_, rfl⟩
  rw [hB] at hr4
  have HW0 : Hid (RTwo B w0 (w4.alloc (.cells #[.slice ba bn bc, .int .i64 0] 50)) gP w4.heap.size bl 0) := by
    have hba := (Below.refl w4.heap.size w4).alloc (Nat.le_refl _) (.cells #[.slice ba bn bc, .int .i64 0] 50)
    refine ⟨hr4.below hba, RRIn.made (heap_alloc_new _ _) (R.out.below (Below.call B4.out hba)) (fun q hq hn => ?_), Below.call B4.out hba, hlo, hlt4⟩
    obtain ⟨b', o', e1, hc⟩ := R.out.cell 0 hn
    rw [hq] at e1
    injection e1 with e1
    subst e1
    have h9 : b' < w0.heap.size := block_lt_of_cell hc
    show b' < w4.heap.size
    omega
  clear hr4 hb4 hlt4 hlo hh1
  rw [hh2] at HW0
  have HH2 := Lib.hid hh2
  clear hh2 hB
  go_wp2_with fail
  rw [HH2.out]
  go_loopw [11] (fun i wr => ∃ (k : Nat) (l : List Int) (e : Int), k ≤ n ∧ i = .int .i64 k ∧ Hid (RTwo B w0 wr gP gQ l e) ∧ l.length ≤ 8192) (fun i _ => n - (intOf i).toNat)
  case atStart => exact ⟨0, bl, 0, by omega, rfl, HW0, HBL.out⟩
  case round =>
    clear HW0 HBL
    obtain ⟨k, l, e, hk, rfl, HW, hll⟩ := hrel
    have HLL : Hid (l.length ≤ 1000000) := by show _ ≤ _; omega
    by_cases hkn : k < n
    · obtain ⟨A, hA⟩ : ∃ A, L[k]? = some A := ⟨_, List.getElem?_eq_getElem (by rw [HLN.out]; exact hkn)⟩
      obtain ⟨b, o, rfl, hat⟩ := H.out.at_ k A hA
      obtain ⟨⟨a2, n2, c2, a3, n3, c3, e0, e1, e2, e3, e4, e5, r2, r3⟩, hwf⟩ := hat
      obtain ⟨kd, x, bs, ls, lo, hi⟩ := A
      have E4 := Lib.hid e4
      have E5 := Lib.hid e5
      replace e0 : wr.cell? ⟨b, o + k * 6, none⟩ = some (.int .i64 kd) := by rw [← e0]; exact World.cell?_of_block (a := ⟨b, o + k * 6, none⟩) (HW.out.below.block b (block_lt_of_cell e0))
      clear hA hwf e1 e2 e3 e4 e5 r2 r3
      have HP : Hid (RIn B wr.drew gP l e) := HW.out.p.below ⟨rfl, rfl, rfl, Nat.le_refl _, fun _ _ => rfl⟩
      have HQ : Hid (RRIn wr.drew gQ l e) := HW.out.q.below ⟨rfl, rfl, rfl, Nat.le_refl _, fun _ _ => rfl⟩
      have HBW : Hid (Below w0.heap.size w0 wr.drew) := ⟨HW.out.below.os, HW.out.below.tape, HW.out.below.output, HW.out.below.size, HW.out.below.block⟩
      have HLO2 : Hid (w0.heap.size ≤ gQ) := by show _ ≤ _; have := HW.out.lo; have := HW.out.lt; omega
      have HNE : Hid (gQ ≠ gP) := by show _ ≠ _; have := HW.out.lt; omega
      by_cases q1 : kd = 1
      · subst q1
        obtain ⟨⟨e1, V, l1⟩, hT⟩ : ∃ T, rdFrom e 0 l (rdInt l) = T := ⟨_, rfl⟩
        have HL1 : Hid (l1.length ≤ l.length) := by
          show _ ≤ _
          have h9 := rdFrom_le e 0 (rdInt_le l)
          rw [hT] at h9
          exact h9
        have HT := Lib.hid hT
        clear hT
        go_wp2_with fail
        refine (rInt_any gP l e wr HW.out.p).mono ?_
        rintro e' w5 ⟨hg5, hr5, v5, rfl, hv5⟩
        rw [HT.out] at hr5 hv5
        replace hv5 : v5 = .int .i64 V := hv5
        subst hv5
        have R5 := Lib.hid hr5
        have G5 := Lib.hid hg5
        clear hr5 hg5 e0
        go_wp2_with fail
        refine (rrInt_any gQ l e w5 (HW.out.midQ G5.out)).mono ?_
        rintro e' w6 ⟨hg6, hr6, v6, rfl, hv6⟩
        rw [HT.out] at hr6 hv6
        replace hv6 : v6 = .int .i64 V := hv6
        subst hv6
        have NX := Lib.hid (HW.out.next G5.out R5.out hg6 hr6)
        clear hr6 hg6
        go_wp2_with fail
        go_roundw
        case rel => exact ⟨k + 1, l1, e1, by omega, by go_num, NX, by have := HL1.out; omega⟩
        case measure => simp [intOf] <;> omega
      have p1 : (kd == (1 : Int)) = false := by simpa using q1
      by_cases q2 : kd = 2
      · subst q2
        clear q1
        obtain ⟨⟨e1, lv, l1⟩, hT⟩ : ∃ T, rdFrom e [] l (rdBytes most l) = T := ⟨_, rfl⟩
        have HL1 : Hid (l1.length ≤ l.length) := by
          show _ ≤ _
          have h9 := rdFrom_le e [] (rdBytes_le most l)
          rw [hT] at h9
          exact h9
        have HT := Lib.hid hT
        clear hT
        go_wp2_with fail
        · skip
          refine' reg_order [eqV _, eqV _, (fun v w => isBytes (lv) v w ∧ RIn B w gP l1 e1), eqV _, eqV _, eqV _, (fun v w => isBytes (lv) v w ∧ RRIn w gQ l1 e1), eqV _, eqV _] [(2, RGo gP), (6, RGo gQ)] [(2, fun w => RIn B w gP l e), (6, fun w => RRIn w gQ l e), (9, fun w => Below w0.heap.size w0 w)] [57, 58, 59, 60, 61, 62, 63, 64, 65] [[], [], [0, 1], [2], [], [], [4, 5], [6], [3, 7]] [0, 1, 2, 3, 4, 5, 6, 7, 8] 9 (by kernel_rfl) ⟨eqV_stays _, eqV_stays _, fun _ _ _ p b => ⟨p.1.below b, p.2.below b⟩, eqV_stays _, eqV_stays _, eqV_stays _, fun _ _ _ p b => ⟨p.1.below b, p.2.below b⟩, eqV_stays _, eqV_stays _, trivial⟩ ⟨⟨.inl (eqV_stays _), .inl (eqV_stays _), .inr (.inr rfl), .inl (eqV_stays _), .inl (eqV_stays _), .inl (eqV_stays _), .inr (.inl (by kernel_rfl)), .inl (eqV_stays _), .inl (eqV_stays _), trivial⟩, ⟨.inl (eqV_stays _), .inl (eqV_stays _), .inl (fun _ _ _ p g => ⟨p.1.off g, p.2.off g HW.out.lt⟩), .inl (eqV_stays _), .inl (eqV_stays _), .inl (eqV_stays _), .inr (.inr rfl), .inl (eqV_stays _), .inl (eqV_stays _), trivial⟩, trivial⟩ ⟨fun _ _ p b => p.below b, fun _ _ p b => p.below b, fun _ _ p b => Below.call p b, trivial⟩ ⟨⟨.inr (.inr rfl), .inl (fun _ _ p g => p.off g HNE.out), .inl (fun _ _ p g => below_rgo p g HW.out.lo), trivial⟩, ⟨.inr (.inl (by kernel_rfl)), .inr (.inr rfl), .inl (fun _ _ p g => below_rgo p g HLO2.out), trivial⟩, trivial⟩ ⟨HP.out, HQ.out, HBW.out, trivial⟩ 108 rfl (by kernel_rfl) (by kernel_rfl) rfl rfl 9 rfl ?q1obl ?q1fin
          case q1obl =>
            refine And.intro ?q1o0 (And.intro ?q1o1 (And.intro ?q1o2 (And.intro ?q1o3 (And.intro ?q1o4 (And.intro ?q1o5 (And.intro ?q1o6 (And.intro ?q1o7 (And.intro ?q1o8 (True.intro)))))))))
            case q1o0 =>
              intro w1 hI
              refine turn2_on (by rfl) ?_
              intro K hK
              go_simp
              refine hK _ _ ⟨rfl, Kept.refl _, ?_⟩
              show _ = _
              simp only [List.getD_cons_zero, List.getD_cons_succ, Array.getD_eq_getD_getElem?, List.getElem?_toArray, List.getElem?_cons_zero, List.getElem?_cons_succ, Option.getD_some]
              rfl
            case q1o1 =>
              intro w1 hI
              refine turn2_on (by rfl) ?_
              intro K hK
              go_simp
              refine hK _ _ ⟨rfl, Kept.refl _, ?_⟩
              show _ = _
              simp only [List.getD_cons_zero, List.getD_cons_succ, Array.getD_eq_getD_getElem?, List.getElem?_toArray, List.getElem?_cons_zero, List.getElem?_cons_succ, Option.getD_some]
              rfl
            case q1o2 =>
              intro w1 hI
              replace hI : (fun w => RIn B w gP l e) w1 := hI
              intro v0 h0
              change _ = _ at h0
              subst v0
              intro v1 h1
              change _ = _ at h1
              subst v1
              refine turn2_on (by rfl) ?_
              intro K hK
              simp only [List.getD_cons_zero, List.getD_cons_succ, List.setIfInBounds_toArray, List.set_cons_zero, List.set_cons_succ]
              have HI := Lib.hid hI
              have HRW := Lib.hid hI.row
              clear hI
              go_simp
              refine Calls.mono (rBytes_any gP most l e w1 HI.out HLL.out) ?_
              rintro e9 w9 ⟨hg9, hr9, v9, rfl, ho9⟩
              rw [HT.out] at hr9 ho9
              refine hK _ _ ⟨rfl, ⟨hg9, HRW.out⟩, ?_⟩
              show isBytes _ _ _ ∧ _
              simp only [List.getD_cons_zero, List.getD_cons_succ, Array.getD_eq_getD_getElem?, List.getElem?_toArray, List.getElem?_cons_zero, List.getElem?_cons_succ, Option.getD_some]
              exact ⟨Owns.isBytes ho9, hr9⟩
            case q1o3 =>
              intro w1 hI
              intro v2 h2
              obtain ⟨⟨a2, n2, c2, rfl, h2⟩, k2⟩ := h2
              refine turn2_on (by rfl) ?_
              intro K hK
              simp only [List.getD_cons_zero, List.getD_cons_succ, List.setIfInBounds_toArray, List.set_cons_zero, List.set_cons_succ]
              refine wp_conv 60 rfl u8T s8 su _ rfl rfl h2 ?_
              refine hK _ _ ⟨rfl, Kept.refl _, ?_⟩
              show _ = _
              simp only [List.getD_cons_zero, List.getD_cons_succ, Array.getD_eq_getD_getElem?, List.getElem?_toArray, List.getElem?_cons_zero, List.getElem?_cons_succ, Option.getD_some]
              rfl
            case q1o4 =>
              intro w1 hI
              refine turn2_on (by rfl) ?_
              intro K hK
              go_simp
              refine hK _ _ ⟨rfl, Kept.refl _, ?_⟩
              show _ = _
              simp only [List.getD_cons_zero, List.getD_cons_succ, Array.getD_eq_getD_getElem?, List.getElem?_toArray, List.getElem?_cons_zero, List.getElem?_cons_succ, Option.getD_some]
              rfl
            case q1o5 =>
              intro w1 hI
              refine turn2_on (by rfl) ?_
              intro K hK
              go_simp
              refine hK _ _ ⟨rfl, Kept.refl _, ?_⟩
              show _ = _
              simp only [List.getD_cons_zero, List.getD_cons_succ, Array.getD_eq_getD_getElem?, List.getElem?_toArray, List.getElem?_cons_zero, List.getElem?_cons_succ, Option.getD_some]
              rfl
            case q1o6 =>
              intro w1 hI
              replace hI : (fun w => RRIn w gQ l e) w1 := hI
              intro v4 h4
              change _ = _ at h4
              subst v4
              intro v5 h5
              change _ = _ at h5
              subst v5
              refine turn2_on (by rfl) ?_
              intro K hK
              simp only [List.getD_cons_zero, List.getD_cons_succ, List.setIfInBounds_toArray, List.set_cons_zero, List.set_cons_succ]
              have HI := Lib.hid hI
              have HRW := Lib.hid hI.row
              clear hI
              go_simp
              refine Calls.mono (rrBytes_any gQ most l e w1 HI.out HLL.out) ?_
              rintro e9 w9 ⟨hg9, hr9, v9, rfl, ho9⟩
              rw [HT.out] at hr9 ho9
              refine hK _ _ ⟨rfl, ⟨hg9, HRW.out⟩, ?_⟩
              show isBytes _ _ _ ∧ _
              simp only [List.getD_cons_zero, List.getD_cons_succ, Array.getD_eq_getD_getElem?, List.getElem?_toArray, List.getElem?_cons_zero, List.getElem?_cons_succ, Option.getD_some]
              exact ⟨Owns.isBytes ho9, hr9⟩
            case q1o7 =>
              intro w1 hI
              intro v6 h6
              obtain ⟨⟨a6, n6, c6, rfl, h6⟩, k6⟩ := h6
              refine turn2_on (by rfl) ?_
              intro K hK
              simp only [List.getD_cons_zero, List.getD_cons_succ, List.setIfInBounds_toArray, List.set_cons_zero, List.set_cons_succ]
              refine wp_conv 64 rfl u8T s8 su _ rfl rfl h6 ?_
              refine hK _ _ ⟨rfl, Kept.refl _, ?_⟩
              show _ = _
              simp only [List.getD_cons_zero, List.getD_cons_succ, Array.getD_eq_getD_getElem?, List.getElem?_toArray, List.getElem?_cons_zero, List.getElem?_cons_succ, Option.getD_some]
              rfl
            case q1o8 =>
              intro w1 hI
              intro v3 h3
              change _ = _ at h3
              subst v3
              intro v7 h7
              change _ = _ at h7
              subst v7
              refine turn2_on (by rfl) ?_
              intro K hK
              simp only [List.getD_cons_zero, List.getD_cons_succ, List.setIfInBounds_toArray, List.set_cons_zero, List.set_cons_succ]
              go_simp
              refine hK _ _ ⟨rfl, Kept.refl _, ?_⟩
              show _ = _
              simp only [List.getD_cons_zero, List.getD_cons_succ, Array.getD_eq_getD_getElem?, List.getElem?_toArray, List.getElem?_cons_zero, List.getElem?_cons_succ, Option.getD_some]
              rfl
          intro w1 hI
          replace hI : (fun w => Below w0.heap.size w0 w) w1 := hI
          intro v0 h0
          change _ = _ at h0
          subst v0
          intro v1 h1
          change _ = _ at h1
          subst v1
          intro v2 h2
          obtain ⟨⟨a2, n2, c2, rfl, h2⟩, k2⟩ := h2
          intro v3 h3
          change _ = _ at h3
          subst v3
          intro v4 h4
          change _ = _ at h4
          subst v4
          intro v5 h5
          change _ = _ at h5
          subst v5
          intro v6 h6
          obtain ⟨⟨a6, n6, c6, rfl, h6⟩, k6⟩ := h6
          intro v7 h7
          change _ = _ at h7
          subst v7
          intro v8 h8
          change _ = _ at h8
          subst v8
          simp only [Given, List.getD_cons_zero, List.getD_cons_succ, List.setIfInBounds_toArray, List.set_cons_zero, List.set_cons_succ]
          have NX : Hid (RTwo B w0 w1 gP gQ l1 e1) := ⟨k2, k6, hI, HW.out.lo, HW.out.lt⟩
          clear k2 k6 h2 h6 hI
          go_wp2_with fail
          go_roundw
          case rel => exact ⟨k + 1, l1, e1, by omega, by go_num, NX, by have := HL1.out; omega⟩
          case measure => simp [intOf] <;> omega
      have p2 : (kd == (2 : Int)) = false := by simpa using q2
      by_cases q3 : kd = 3
      · subst q3
        clear q1 q2
        obtain ⟨⟨e1, V, l1⟩, hT⟩ : ∃ T, rdFrom e [] l (rdList most l) = T := ⟨_, rfl⟩
        have HL1 : Hid (l1.length ≤ l.length) := by
          show _ ≤ _
          have h9 := rdFrom_le e [] (rdList_le most l)
          rw [hT] at h9
          exact h9
        have HT := Lib.hid hT
        clear hT
        go_wp2_with fail
        refine (rList_any gP most l e wr HW.out.p HLL.out).mono ?_
        rintro e' w5 ⟨hg5, hr5, v5, rfl, hv5⟩
        rw [HT.out] at hr5 hv5
        obtain ⟨mv, hmv⟩ : ∃ m, V.length = m := ⟨_, rfl⟩
        obtain ⟨a5, c5, rfl⟩ := Owns.shapeN hv5 mv hmv
        have R5 := Lib.hid hr5
        have G5 := Lib.hid hg5
        have O5 : Hid (Owns .i64 3 w5 wr.heap.size (.slice a5 mv c5) V) := hv5
        clear hr5 hg5 e0 hv5
        go_wp2_with fail
        refine (rrList_any gQ most l e w5 (HW.out.midQ G5.out) HLL.out).mono ?_
        rintro e' w6 ⟨hg6, hr6, v6, rfl, hv6⟩
        rw [HT.out] at hr6 hv6
        obtain ⟨a6, c6, rfl⟩ := Owns.shapeN hv6 mv hmv
        have O6 : Hid (Owns .i64 3 w6 w5.heap.size (.slice a6 mv c6) V) := hv6
        have O5b := Lib.hid (O5.out.grown hg6 (fun g hg e => by have h9 := (O5.out.at_base g hg).1; injection e with e; have h8 := HW.out.q.lt; omega))
        have NX := Lib.hid (HW.out.next G5.out R5.out hg6 hr6)
        clear hr6 hg6 hv6 hmv
        go_wp2_with fail
        refine (ints_same a5 mv c5 a6 c6 V w6 O5b.out.rd O6.out.rd).mono ?_
        rintro e' w7 ⟨rfl, hb7⟩
        have NX7 := Lib.hid (NX.out.kept hb7)
        clear hb7
        go_wp2_with fail
        go_roundw
        case rel => exact ⟨k + 1, l1, e1, by omega, by go_num, NX7, by have := HL1.out; omega⟩
        case measure => simp [intOf] <;> omega
      have p3 : (kd == (3 : Int)) = false := by simpa using q3
      by_cases q4 : kd = 4
      · subst q4
        clear q1 q2 q3
        obtain ⟨⟨e1, V, l1⟩, hT⟩ : ∃ T, rdFrom e 0 l (rdBetween lo hi l) = T := ⟨_, rfl⟩
        have HL1 : Hid (l1.length ≤ l.length) := by
          show _ ≤ _
          have h9 := rdFrom_le e 0 (show (rdBetween lo hi l).l.length ≤ l.length by have h9 := btw_len 0 lo hi l; rw [rdFrom_ok] at h9; exact h9)
          rw [hT] at h9
          exact h9
        have HT := Lib.hid hT
        clear hT
        go_wp2_with fail
        · skip
          refine' reg_order [eqV _, eqV _, eqV _, eqV _, eqV _, eqV _, eqV _, eqV _, eqV _, eqV _, eqV _, (fun v w => v = .int .i64 V ∧ RIn B w gP l1 e1), eqV _, eqV _, eqV _, eqV _, eqV _, eqV _, eqV _, eqV _, eqV _, eqV _, eqV _, (fun v w => v = .int .i64 V ∧ RRIn w gQ l1 e1), eqV _] [(11, RGo gP), (23, RGo gQ)] [(5, fun w => Below w0.heap.size w0 w), (10, fun w => Below w0.heap.size w0 w), (17, fun w => Below w0.heap.size w0 w), (22, fun w => Below w0.heap.size w0 w), (11, fun w => RIn B w gP l e), (23, fun w => RRIn w gQ l e), (25, fun w => Below w0.heap.size w0 w)] [78, 79, 80, 81, 82, 83, 84, 85, 86, 87, 88, 89, 90, 91, 92, 93, 94, 95, 96, 97, 98, 99, 100, 101, 102] [[], [], [], [1, 2], [3], [4], [], [], [6, 7], [8], [9], [0, 5, 10], [], [], [], [13, 14], [15], [16], [], [], [18, 19], [20], [21], [12, 17, 22], [11, 23]] [0, 1, 2, 3, 4, 5, 6, 7, 8, 9, 10, 11, 12, 13, 14, 15, 16, 17, 18, 19, 20, 21, 22, 23, 24] 25 (by kernel_rfl) ⟨eqV_stays _, eqV_stays _, eqV_stays _, eqV_stays _, eqV_stays _, eqV_stays _, eqV_stays _, eqV_stays _, eqV_stays _, eqV_stays _, eqV_stays _, fun _ _ _ p b => ⟨p.1, p.2.below b⟩, eqV_stays _, eqV_stays _, eqV_stays _, eqV_stays _, eqV_stays _, eqV_stays _, eqV_stays _, eqV_stays _, eqV_stays _, eqV_stays _, eqV_stays _, fun _ _ _ p b => ⟨p.1, p.2.below b⟩, eqV_stays _, trivial⟩ ⟨⟨.inl (eqV_stays _), .inl (eqV_stays _), .inl (eqV_stays _), .inl (eqV_stays _), .inl (eqV_stays _), .inl (eqV_stays _), .inl (eqV_stays _), .inl (eqV_stays _), .inl (eqV_stays _), .inl (eqV_stays _), .inl (eqV_stays _), .inr (.inr rfl), .inl (eqV_stays _), .inl (eqV_stays _), .inl (eqV_stays _), .inl (eqV_stays _), .inl (eqV_stays _), .inl (eqV_stays _), .inl (eqV_stays _), .inl (eqV_stays _), .inl (eqV_stays _), .inl (eqV_stays _), .inl (eqV_stays _), .inr (.inl (by kernel_rfl)), .inl (eqV_stays _), trivial⟩, ⟨.inl (eqV_stays _), .inl (eqV_stays _), .inl (eqV_stays _), .inl (eqV_stays _), .inl (eqV_stays _), .inl (eqV_stays _), .inl (eqV_stays _), .inl (eqV_stays _), .inl (eqV_stays _), .inl (eqV_stays _), .inl (eqV_stays _), .inl (fun _ _ _ p g => ⟨p.1, p.2.off g HW.out.lt⟩), .inl (eqV_stays _), .inl (eqV_stays _), .inl (eqV_stays _), .inl (eqV_stays _), .inl (eqV_stays _), .inl (eqV_stays _), .inl (eqV_stays _), .inl (eqV_stays _), .inl (eqV_stays _), .inl (eqV_stays _), .inl (eqV_stays _), .inr (.inr rfl), .inl (eqV_stays _), trivial⟩, trivial⟩ ⟨fun _ _ p b => Below.call p b, fun _ _ p b => Below.call p b, fun _ _ p b => Below.call p b, fun _ _ p b => Below.call p b, fun _ _ p b => p.below b, fun _ _ p b => p.below b, fun _ _ p b => Below.call p b, trivial⟩ ⟨⟨.inr (.inl (by kernel_rfl)), .inr (.inl (by kernel_rfl)), .inl (fun _ _ p g => below_rgo p g HW.out.lo), .inl (fun _ _ p g => below_rgo p g HW.out.lo), .inr (.inr rfl), .inl (fun _ _ p g => p.off g HNE.out), .inl (fun _ _ p g => below_rgo p g HW.out.lo), trivial⟩, ⟨.inr (.inl (by kernel_rfl)), .inr (.inl (by kernel_rfl)), .inr (.inl (by kernel_rfl)), .inr (.inl (by kernel_rfl)), .inr (.inl (by kernel_rfl)), .inr (.inr rfl), .inl (fun _ _ p g => below_rgo p g HLO2.out), trivial⟩, trivial⟩ ⟨HBW.out, HBW.out, HBW.out, HBW.out, HP.out, HQ.out, HBW.out, trivial⟩ 108 rfl (by kernel_rfl) (by kernel_rfl) rfl rfl 25 rfl ?q2obl ?q2fin
          case q2obl =>
            refine And.intro ?q2o0 (And.intro ?q2o1 (And.intro ?q2o2 (And.intro ?q2o3 (And.intro ?q2o4 (And.intro ?q2o5 (And.intro ?q2o6 (And.intro ?q2o7 (And.intro ?q2o8 (And.intro ?q2o9 (And.intro ?q2o10 (And.intro ?q2o11 (And.intro ?q2o12 (And.intro ?q2o13 (And.intro ?q2o14 (And.intro ?q2o15 (And.intro ?q2o16 (And.intro ?q2o17 (And.intro ?q2o18 (And.intro ?q2o19 (And.intro ?q2o20 (And.intro ?q2o21 (And.intro ?q2o22 (And.intro ?q2o23 (And.intro ?q2o24 (True.intro)))))))))))))))))))))))))
            case q2o0 =>
              intro w1 hI
              refine turn2_on (by rfl) ?_
              intro K hK
              go_simp
              refine hK _ _ ⟨rfl, Kept.refl _, ?_⟩
              show _ = _
              simp only [List.getD_cons_zero, List.getD_cons_succ, Array.getD_eq_getD_getElem?, List.getElem?_toArray, List.getElem?_cons_zero, List.getElem?_cons_succ, Option.getD_some]
              rfl
            case q2o1 =>
              intro w1 hI
              refine turn2_on (by rfl) ?_
              intro K hK
              go_simp
              refine hK _ _ ⟨rfl, Kept.refl _, ?_⟩
              show _ = _
              simp only [List.getD_cons_zero, List.getD_cons_succ, Array.getD_eq_getD_getElem?, List.getElem?_toArray, List.getElem?_cons_zero, List.getElem?_cons_succ, Option.getD_some]
              rfl
            case q2o2 =>
              intro w1 hI
              refine turn2_on (by rfl) ?_
              intro K hK
              go_simp
              refine hK _ _ ⟨rfl, Kept.refl _, ?_⟩
              show _ = _
              simp only [List.getD_cons_zero, List.getD_cons_succ, Array.getD_eq_getD_getElem?, List.getElem?_toArray, List.getElem?_cons_zero, List.getElem?_cons_succ, Option.getD_some]
              rfl
            case q2o3 =>
              intro w1 hI
              intro v1 h1
              change _ = _ at h1
              subst v1
              intro v2 h2
              change _ = _ at h2
              subst v2
              refine turn2_on (by rfl) ?_
              intro K hK
              simp only [List.getD_cons_zero, List.getD_cons_succ, List.setIfInBounds_toArray, List.set_cons_zero, List.set_cons_succ]
              go_simp
              refine hK _ _ ⟨rfl, Kept.refl _, ?_⟩
              show _ = _
              simp only [List.getD_cons_zero, List.getD_cons_succ, Array.getD_eq_getD_getElem?, List.getElem?_toArray, List.getElem?_cons_zero, List.getElem?_cons_succ, Option.getD_some]
              rfl
            case q2o4 =>
              intro w1 hI
              intro v3 h3
              change _ = _ at h3
              subst v3
              refine turn2_on (by rfl) ?_
              intro K hK
              simp only [List.getD_cons_zero, List.getD_cons_succ, List.setIfInBounds_toArray, List.set_cons_zero, List.set_cons_succ]
              go_simp
              refine hK _ _ ⟨rfl, Kept.refl _, ?_⟩
              show _ = _
              simp only [List.getD_cons_zero, List.getD_cons_succ, Array.getD_eq_getD_getElem?, List.getElem?_toArray, List.getElem?_cons_zero, List.getElem?_cons_succ, Option.getD_some]
              rfl
            case q2o5 =>
              intro w1 hI
              replace hI : (fun w => Below w0.heap.size w0 w) w1 := hI
              intro v4 h4
              change _ = _ at h4
              subst v4
              refine turn2_on (by rfl) ?_
              intro K hK
              simp only [List.getD_cons_zero, List.getD_cons_succ, List.setIfInBounds_toArray, List.set_cons_zero, List.set_cons_succ]
              have HBI := Lib.hid hI
              clear hI
              have c9 : w1.cell? ⟨b, o + k * 6 + 4, none⟩ = some (.int .i64 lo) := by rw [← E4.out]; exact World.cell?_of_block (a := ⟨b, o + k * 6 + 4, none⟩) (HBI.out.block b (block_lt_of_cell E4.out))
              go_simp
              refine hK _ _ ⟨rfl, Kept.refl _, ?_⟩
              show _ = _
              simp only [List.getD_cons_zero, List.getD_cons_succ, Array.getD_eq_getD_getElem?, List.getElem?_toArray, List.getElem?_cons_zero, List.getElem?_cons_succ, Option.getD_some]
              rfl
            case q2o6 =>
              intro w1 hI
              refine turn2_on (by rfl) ?_
              intro K hK
              go_simp
              refine hK _ _ ⟨rfl, Kept.refl _, ?_⟩
              show _ = _
              simp only [List.getD_cons_zero, List.getD_cons_succ, Array.getD_eq_getD_getElem?, List.getElem?_toArray, List.getElem?_cons_zero, List.getElem?_cons_succ, Option.getD_some]
              rfl
            case q2o7 =>
              intro w1 hI
              refine turn2_on (by rfl) ?_
              intro K hK
              go_simp
              refine hK _ _ ⟨rfl, Kept.refl _, ?_⟩
              show _ = _
              simp only [List.getD_cons_zero, List.getD_cons_succ, Array.getD_eq_getD_getElem?, List.getElem?_toArray, List.getElem?_cons_zero, List.getElem?_cons_succ, Option.getD_some]
              rfl
            case q2o8 =>
              intro w1 hI
              intro v6 h6
              change _ = _ at h6
              subst v6
              intro v7 h7
              change _ = _ at h7
              subst v7
              refine turn2_on (by rfl) ?_
              intro K hK
              simp only [List.getD_cons_zero, List.getD_cons_succ, List.setIfInBounds_toArray, List.set_cons_zero, List.set_cons_succ]
              go_simp
              refine hK _ _ ⟨rfl, Kept.refl _, ?_⟩
              show _ = _
              simp only [List.getD_cons_zero, List.getD_cons_succ, Array.getD_eq_getD_getElem?, List.getElem?_toArray, List.getElem?_cons_zero, List.getElem?_cons_succ, Option.getD_some]
              rfl
            case q2o9 =>
              intro w1 hI
              intro v8 h8
              change _ = _ at h8
              subst v8
              refine turn2_on (by rfl) ?_
              intro K hK
              simp only [List.getD_cons_zero, List.getD_cons_succ, List.setIfInBounds_toArray, List.set_cons_zero, List.set_cons_succ]
              go_simp
              refine hK _ _ ⟨rfl, Kept.refl _, ?_⟩
              show _ = _
              simp only [List.getD_cons_zero, List.getD_cons_succ, Array.getD_eq_getD_getElem?, List.getElem?_toArray, List.getElem?_cons_zero, List.getElem?_cons_succ, Option.getD_some]
              rfl
            case q2o10 =>
              intro w1 hI
              replace hI : (fun w => Below w0.heap.size w0 w) w1 := hI
              intro v9 h9
              change _ = _ at h9
              subst v9
              refine turn2_on (by rfl) ?_
              intro K hK
              simp only [List.getD_cons_zero, List.getD_cons_succ, List.setIfInBounds_toArray, List.set_cons_zero, List.set_cons_succ]
              have HBI := Lib.hid hI
              clear hI
              have c9 : w1.cell? ⟨b, o + k * 6 + 5, none⟩ = some (.int .i64 hi) := by rw [← E5.out]; exact World.cell?_of_block (a := ⟨b, o + k * 6 + 5, none⟩) (HBI.out.block b (block_lt_of_cell E5.out))
              go_simp
              refine hK _ _ ⟨rfl, Kept.refl _, ?_⟩
              show _ = _
              simp only [List.getD_cons_zero, List.getD_cons_succ, Array.getD_eq_getD_getElem?, List.getElem?_toArray, List.getElem?_cons_zero, List.getElem?_cons_succ, Option.getD_some]
              rfl
            case q2o11 =>
              intro w1 hI
              replace hI : (fun w => RIn B w gP l e) w1 := hI
              intro v0 h0
              change _ = _ at h0
              subst v0
              intro v5 h5
              change _ = _ at h5
              subst v5
              intro v10 h10
              change _ = _ at h10
              subst v10
              refine turn2_on (by rfl) ?_
              intro K hK
              simp only [List.getD_cons_zero, List.getD_cons_succ, List.setIfInBounds_toArray, List.set_cons_zero, List.set_cons_succ]
              have HI := Lib.hid hI
              have HRW := Lib.hid hI.row
              clear hI
              go_simp
              refine Calls.mono (rBetween_any gP lo hi l e w1 HI.out) ?_
              rintro e9 w9 ⟨hg9, hr9, v9, rfl, ho9⟩
              rw [HT.out] at hr9 ho9
              refine hK _ _ ⟨rfl, ⟨hg9, HRW.out⟩, ?_⟩
              show _ = _ ∧ _
              simp only [List.getD_cons_zero, List.getD_cons_succ, Array.getD_eq_getD_getElem?, List.getElem?_toArray, List.getElem?_cons_zero, List.getElem?_cons_succ, Option.getD_some]
              exact ⟨ho9, hr9⟩
            case q2o12 =>
              intro w1 hI
              refine turn2_on (by rfl) ?_
              intro K hK
              go_simp
              refine hK _ _ ⟨rfl, Kept.refl _, ?_⟩
              show _ = _
              simp only [List.getD_cons_zero, List.getD_cons_succ, Array.getD_eq_getD_getElem?, List.getElem?_toArray, List.getElem?_cons_zero, List.getElem?_cons_succ, Option.getD_some]
              rfl
            case q2o13 =>
              intro w1 hI
              refine turn2_on (by rfl) ?_
              intro K hK
              go_simp
              refine hK _ _ ⟨rfl, Kept.refl _, ?_⟩
              show _ = _
              simp only [List.getD_cons_zero, List.getD_cons_succ, Array.getD_eq_getD_getElem?, List.getElem?_toArray, List.getElem?_cons_zero, List.getElem?_cons_succ, Option.getD_some]
              rfl
            case q2o14 =>
              intro w1 hI
              refine turn2_on (by rfl) ?_
              intro K hK
              go_simp
              refine hK _ _ ⟨rfl, Kept.refl _, ?_⟩
              show _ = _
              simp only [List.getD_cons_zero, List.getD_cons_succ, Array.getD_eq_getD_getElem?, List.getElem?_toArray, List.getElem?_cons_zero, List.getElem?_cons_succ, Option.getD_some]
              rfl
            case q2o15 =>
              intro w1 hI
              intro v13 h13
              change _ = _ at h13
              subst v13
              intro v14 h14
              change _ = _ at h14
              subst v14
              refine turn2_on (by rfl) ?_
              intro K hK
              simp only [List.getD_cons_zero, List.getD_cons_succ, List.setIfInBounds_toArray, List.set_cons_zero, List.set_cons_succ]
              go_simp
              refine hK _ _ ⟨rfl, Kept.refl _, ?_⟩
              show _ = _
              simp only [List.getD_cons_zero, List.getD_cons_succ, Array.getD_eq_getD_getElem?, List.getElem?_toArray, List.getElem?_cons_zero, List.getElem?_cons_succ, Option.getD_some]
              rfl
            case q2o16 =>
              intro w1 hI
              intro v15 h15
              change _ = _ at h15
              subst v15
              refine turn2_on (by rfl) ?_
              intro K hK
              simp only [List.getD_cons_zero, List.getD_cons_succ, List.setIfInBounds_toArray, List.set_cons_zero, List.set_cons_succ]
              go_simp
              refine hK _ _ ⟨rfl, Kept.refl _, ?_⟩
              show _ = _
              simp only [List.getD_cons_zero, List.getD_cons_succ, Array.getD_eq_getD_getElem?, List.getElem?_toArray, List.getElem?_cons_zero, List.getElem?_cons_succ, Option.getD_some]
              rfl
            case q2o17 =>
              intro w1 hI
              replace hI : (fun w => Below w0.heap.size w0 w) w1 := hI
              intro v16 h16
              change _ = _ at h16
              subst v16
              refine turn2_on (by rfl) ?_
              intro K hK
              simp only [List.getD_cons_zero, List.getD_cons_succ, List.setIfInBounds_toArray, List.set_cons_zero, List.set_cons_succ]
              have HBI := Lib.hid hI
              clear hI
              have c9 : w1.cell? ⟨b, o + k * 6 + 4, none⟩ = some (.int .i64 lo) := by rw [← E4.out]; exact World.cell?_of_block (a := ⟨b, o + k * 6 + 4, none⟩) (HBI.out.block b (block_lt_of_cell E4.out))
              go_simp
              refine hK _ _ ⟨rfl, Kept.refl _, ?_⟩
              show _ = _
              simp only [List.getD_cons_zero, List.getD_cons_succ, Array.getD_eq_getD_getElem?, List.getElem?_toArray, List.getElem?_cons_zero, List.getElem?_cons_succ, Option.getD_some]
              rfl
            case q2o18 =>
              intro w1 hI
              refine turn2_on (by rfl) ?_
              intro K hK
              go_simp
              refine hK _ _ ⟨rfl, Kept.refl _, ?_⟩
              show _ = _
              simp only [List.getD_cons_zero, List.getD_cons_succ, Array.getD_eq_getD_getElem?, List.getElem?_toArray, List.getElem?_cons_zero, List.getElem?_cons_succ, Option.getD_some]
              rfl
            case q2o19 =>
              intro w1 hI
              refine turn2_on (by rfl) ?_
              intro K hK
              go_simp
              refine hK _ _ ⟨rfl, Kept.refl _, ?_⟩
              show _ = _
              simp only [List.getD_cons_zero, List.getD_cons_succ, Array.getD_eq_getD_getElem?, List.getElem?_toArray, List.getElem?_cons_zero, List.getElem?_cons_succ, Option.getD_some]
              rfl
            case q2o20 =>
              intro w1 hI
              intro v18 h18
              change _ = _ at h18
              subst v18
              intro v19 h19
              change _ = _ at h19
              subst v19
              refine turn2_on (by rfl) ?_
              intro K hK
              simp only [List.getD_cons_zero, List.getD_cons_succ, List.setIfInBounds_toArray, List.set_cons_zero, List.set_cons_succ]
              go_simp
              refine hK _ _ ⟨rfl, Kept.refl _, ?_⟩
              show _ = _
              simp only [List.getD_cons_zero, List.getD_cons_succ, Array.getD_eq_getD_getElem?, List.getElem?_toArray, List.getElem?_cons_zero, List.getElem?_cons_succ, Option.getD_some]
              rfl
            case q2o21 =>
              intro w1 hI
              intro v20 h20
              change _ = _ at h20
              subst v20
              refine turn2_on (by rfl) ?_
              intro K hK
              simp only [List.getD_cons_zero, List.getD_cons_succ, List.setIfInBounds_toArray, List.set_cons_zero, List.set_cons_succ]
              go_simp
              refine hK _ _ ⟨rfl, Kept.refl _, ?_⟩
              show _ = _
              simp only [List.getD_cons_zero, List.getD_cons_succ, Array.getD_eq_getD_getElem?, List.getElem?_toArray, List.getElem?_cons_zero, List.getElem?_cons_succ, Option.getD_some]
              rfl
            case q2o22 =>
              intro w1 hI
              replace hI : (fun w => Below w0.heap.size w0 w) w1 := hI
              intro v21 h21
              change _ = _ at h21
              subst v21
              refine turn2_on (by rfl) ?_
              intro K hK
              simp only [List.getD_cons_zero, List.getD_cons_succ, List.setIfInBounds_toArray, List.set_cons_zero, List.set_cons_succ]
              have HBI := Lib.hid hI
              clear hI
              have c9 : w1.cell? ⟨b, o + k * 6 + 5, none⟩ = some (.int .i64 hi) := by rw [← E5.out]; exact World.cell?_of_block (a := ⟨b, o + k * 6 + 5, none⟩) (HBI.out.block b (block_lt_of_cell E5.out))
              go_simp
              refine hK _ _ ⟨rfl, Kept.refl _, ?_⟩
              show _ = _
              simp only [List.getD_cons_zero, List.getD_cons_succ, Array.getD_eq_getD_getElem?, List.getElem?_toArray, List.getElem?_cons_zero, List.getElem?_cons_succ, Option.getD_some]
              rfl
            case q2o23 =>
              intro w1 hI
              replace hI : (fun w => RRIn w gQ l e) w1 := hI
              intro v12 h12
              change _ = _ at h12
              subst v12
              intro v17 h17
              change _ = _ at h17
              subst v17
              intro v22 h22
              change _ = _ at h22
              subst v22
              refine turn2_on (by rfl) ?_
              intro K hK
              simp only [List.getD_cons_zero, List.getD_cons_succ, List.setIfInBounds_toArray, List.set_cons_zero, List.set_cons_succ]
              have HI := Lib.hid hI
              have HRW := Lib.hid hI.row
              clear hI
              go_simp
              refine Calls.mono (rrBetween_any gQ lo hi l e w1 HI.out) ?_
              rintro e9 w9 ⟨hg9, hr9, v9, rfl, ho9⟩
              rw [HT.out] at hr9 ho9
              refine hK _ _ ⟨rfl, ⟨hg9, HRW.out⟩, ?_⟩
              show _ = _ ∧ _
              simp only [List.getD_cons_zero, List.getD_cons_succ, Array.getD_eq_getD_getElem?, List.getElem?_toArray, List.getElem?_cons_zero, List.getElem?_cons_succ, Option.getD_some]
              exact ⟨ho9, hr9⟩
            case q2o24 =>
              intro w1 hI
              intro v11 h11
              obtain ⟨rfl, k11⟩ := h11
              intro v23 h23
              obtain ⟨rfl, k23⟩ := h23
              refine turn2_on (by rfl) ?_
              intro K hK
              simp only [List.getD_cons_zero, List.getD_cons_succ, List.setIfInBounds_toArray, List.set_cons_zero, List.set_cons_succ]
              go_simp
              refine hK _ _ ⟨rfl, Kept.refl _, ?_⟩
              show _ = _
              simp only [List.getD_cons_zero, List.getD_cons_succ, Array.getD_eq_getD_getElem?, List.getElem?_toArray, List.getElem?_cons_zero, List.getElem?_cons_succ, Option.getD_some]
              rfl
          intro w1 hI
          replace hI : (fun w => Below w0.heap.size w0 w) w1 := hI
          intro v0 h0
          change _ = _ at h0
          subst v0
          intro v1 h1
          change _ = _ at h1
          subst v1
          intro v2 h2
          change _ = _ at h2
          subst v2
          intro v3 h3
          change _ = _ at h3
          subst v3
          intro v4 h4
          change _ = _ at h4
          subst v4
          intro v5 h5
          change _ = _ at h5
          subst v5
          intro v6 h6
          change _ = _ at h6
          subst v6
          intro v7 h7
          change _ = _ at h7
          subst v7
          intro v8 h8
          change _ = _ at h8
          subst v8
          intro v9 h9
          change _ = _ at h9
          subst v9
          intro v10 h10
          change _ = _ at h10
          subst v10
          intro v11 h11
          obtain ⟨rfl, k11⟩ := h11
          intro v12 h12
          change _ = _ at h12
          subst v12
          intro v13 h13
          change _ = _ at h13
          subst v13
          intro v14 h14
          change _ = _ at h14
          subst v14
          intro v15 h15
          change _ = _ at h15
          subst v15
          intro v16 h16
          change _ = _ at h16
          subst v16
          intro v17 h17
          change _ = _ at h17
          subst v17
          intro v18 h18
          change _ = _ at h18
          subst v18
          intro v19 h19
          change _ = _ at h19
          subst v19
          intro v20 h20
          change _ = _ at h20
          subst v20
          intro v21 h21
          change _ = _ at h21
          subst v21
          intro v22 h22
          change _ = _ at h22
          subst v22
          intro v23 h23
          obtain ⟨rfl, k23⟩ := h23
          intro v24 h24
          change _ = _ at h24
          subst v24
          simp only [Given, List.getD_cons_zero, List.getD_cons_succ, List.setIfInBounds_toArray, List.set_cons_zero, List.set_cons_succ]
          have NX : Hid (RTwo B w0 w1 gP gQ l1 e1) := ⟨k11, k23, hI, HW.out.lo, HW.out.lt⟩
          clear k11 k23 hI
          go_wp2_with fail
          go_roundw
          case rel => exact ⟨k + 1, l1, e1, by omega, by go_num, NX, by have := HL1.out; omega⟩
          case measure => simp [intOf] <;> omega
      have p4 : (kd == (4 : Int)) = false := by simpa using q4
      clear q1 q2 q3 q4
      go_wp2_with fail
      go_roundw
      case rel => exact ⟨k + 1, l, e, by omega, by go_num, HW, hll⟩
      case measure => simp [intOf] <;> omega
    · obtain rfl : k = n := by omega
      go_wp2_with fail
      refine (rEnd_any gP l e wr HW.out.p).mono ?_
      rintro e' w5 ⟨rfl, rfl⟩
      go_wp2_with fail
      refine (rrEnd_any gQ l e wr HW.out.q).mono ?_
      rintro e' w6 ⟨rfl, rfl⟩
      go_wp2_with fail
      go_ret
      exact ⟨rfl, HW.out.below⟩
set_option linter.unusedSimpArgs false in
set_option linter.unusedVariables false in
set_option maxRecDepth 100000 in
set_option maxHeartbeats 16000000 in
theorem codecRecords_walk (a : Option Addr) (n c : Nat) (L : List ItemP) (ba : Option Addr) (bn bc : Nat) (bl : List Int) (most : Int) (w : World) (h : ItemsAt w a n L) (hb : sumItem L + n ≤ 1048576) (hr : RdAt .u8 w ba bn bc bl) (hmost : (Lit.int .i64 most).wf = true) :
    Calls Try.prog 7 #[.slice a n c, .slice ba bn bc, .int .i64 most] w fun e w' => e = .returned (.bool true) ∧ Below w.heap.size w w' := by
  by_cases q1 : sumItem L + n ≤ 8192
  · by_cases q2 : bn ≤ 8192
    · exact records_main a n c L ba bn bc bl most w h q1 hr q2 hmost
    · have hdec : decide (((sumItem L + n : Nat) : Int) ≤ (8192 : Int)) = true := decide_eq_true (by omega)
      have HD := Lib.hid hdec
      have H := Lib.hid h
      have d1 : decide ((8192 : Int) < bn) = true := decide_eq_true (by omega)
      clear hdec h hr
      go_enter Try.func7, Try.ntmps7
      go_wp2_with fail
      refine (known3 _).mono ?_
      rintro e w1 ⟨rfl, hb1⟩
      have B1 := Lib.hid hb1
      clear hb1
      go_wp2_with fail
      refine (ifew_any a n c L w1 (H.out.below' B1.out) (by omega)).mono ?_
      rintro e w2 ⟨rfl, hb2⟩
      rw [HD.out]
      have B2 := Lib.hid (Below.call B1.out hb2)
      clear hb2
      go_wp2_with fail
      go_ret
      exact ⟨rfl, B2.out⟩
  · have hdec : decide (((sumItem L + n : Nat) : Int) ≤ (8192 : Int)) = false := decide_eq_false (by omega)
    have HD := Lib.hid hdec
    have H := Lib.hid h
    clear hdec h hr
    go_enter Try.func7, Try.ntmps7
    go_wp2_with fail
    refine (known3 _).mono ?_
    rintro e w1 ⟨rfl, hb1⟩
    have B1 := Lib.hid hb1
    clear hb1
    go_wp2_with fail
    refine (ifew_any a n c L w1 (H.out.below' B1.out) (by omega)).mono ?_
    rintro e w2 ⟨rfl, hb2⟩
    rw [HD.out]
    have B2 := Lib.hid (Below.call B1.out hb2)
    clear hb2
    go_wp2_with fail
    go_ret
    exact ⟨rfl, B2.out⟩
end Go.Proofs.Ytnlhpfcepbmbfaa
