/- disk: of pending writes of unlike sectors just those that are kept are there behind a cut. -/
import Derived.Test.YtpgncmoagmkcmaaDkK
import Derived.Test.YtpgncmoagmkcmaaBools
import Derived.BigQuiet
import Derived.Deep.QuietTactic
namespace Go.Proofs.Ytpgncmoagmkcmaa
open Go.RowKit
theorem BufAt.rd64 {w : World} {b : Nat} {l : List Int} (h : BufAt w b l) (hl : l.length = 64) : RdAt .u8 w (some ⟨b, 0, none⟩) 64 64 l := by
  have := h.rd
  rw [hl] at this
  exact this
def fillB (x : Int) : List Int := ((List.replicate 64 0).set 0 x).set 1 1
theorem fillB_len (x : Int) : (fillB x).length = 64 := by unfold fillB; rw [List.length_set, List.length_set, List.length_replicate]
theorem fillB_0 (x : Int) : nth (fillB x) 0 = x := rfl
theorem fillB_1 (x : Int) : nth (fillB x) 1 = 1 := rfl
def zerosB : List Int := List.replicate 64 0
theorem zerosB_len : zerosB.length = 64 := by unfold zerosB; rw [List.length_replicate]
theorem zerosB_0 : nth zerosB 0 = 0 := rfl
theorem zerosB_1 : nth zerosB 1 = 0 := rfl
def plB : Nat → List Int → List (Int × List Int)
  | _, [] => []
  | i, x :: r => ((i : Int), fillB x) :: plB (i + 1) r
theorem plB_snoc (x : Int) : ∀ (l : List Int) (i : Nat), plB i (l ++ [x]) = plB i l ++ [(((i + l.length : Nat) : Int), fillB x)]
  | [], i => by simp [plB]
  | y :: l, i => by
    rw [List.cons_append, plB, plB_snoc x l (i + 1), plB, List.length_cons, show i + 1 + l.length = i + (l.length + 1) by omega]
    rfl
theorem plB_len : ∀ (l : List Int) (i : Nat), (plB i l).length = l.length
  | [], _ => rfl
  | _ :: l, i => by rw [plB, List.length_cons, List.length_cons, plB_len l (i + 1)]
theorem settle_plB (κ : Nat → Bool) : ∀ (l : List Int) (i s : Nat) (K : List (List Int)), s < K.length → (settleK κ i (plB i l) K)[s]? = if i ≤ s ∧ s < i + l.length ∧ κ s = true then some (fillB (nth l (s - i))) else K[s]?
  | [], i, s, K, _ => by
    rw [plB, settleK, if_neg (by simp; omega)]
  | x :: l, i, s, K, hs => by
    rw [plB, settleK, settle_plB κ l (i + 1) s _ (by split <;> simp [hs]), Int.toNat_natCast, List.length_cons]
    by_cases h1 : i = s
    · subst h1
      rw [if_neg (by omega)]
      by_cases hk : κ i = true
      · rw [if_pos hk, if_pos ⟨Nat.le_refl _, by omega, hk⟩, Nat.sub_self]
        rw [List.getElem?_set_self hs]
        rfl
      · rw [if_neg hk, if_neg (by simp [hk])]
    · have hK : (if κ i = true then K.set i (fillB x) else K)[s]? = K[s]? := by
        split
        · rw [List.getElem?_set_ne h1]
        · rfl
      rw [hK]
      by_cases h2 : i + 1 ≤ s ∧ s < i + 1 + l.length ∧ κ s = true
      · rw [if_pos h2, if_pos ⟨by omega, by omega, h2.2.2⟩]
        obtain ⟨j, hj⟩ : ∃ j, s - i = j + 1 := ⟨s - i - 1, by omega⟩
        rw [hj, show s - (i + 1) = j by omega]
        rfl
      · rw [if_neg h2, if_neg (fun h => h2 ⟨by omega, by omega, h.2.2⟩)]
def allS (l : List Int) : Dk := ⟨false, 0, [], 64, List.replicate 31 (List.replicate 64 0), plB 0 l, l.length, 0⟩
def rdAll (l : List Int) (kl : List Bool) (k : Nat) : Dk := { cutS (allS l) kl with off := false, reads := k }
theorem allS_write (l : List Int) (x : Int) (h : l.length < 31) : wrE (allS l) l.length (fillB x) = 0 ∧ wrS (allS l) l.length (fillB x) = allS (l ++ [x]) := by
  have hf : fitW (allS l) l.length (fillB x) = true := by
    unfold fitW
    rw [decide_eq_true (show (0 : Int) ≤ l.length by omega), decide_eq_true (show (l.length : Int) < (allS l).kept.length by show _ < ((List.replicate 31 _).length : Int); rw [List.length_replicate]; omega), decide_eq_true (show (fillB x).length = (allS l).size from fillB_len x)]
    rfl
  constructor
  · unfold wrE; rw [hf]; rfl
  · unfold wrS; rw [hf]
    show putS (allS l) l.length (fillB x) = allS (l ++ [x])
    unfold putS allS
    rw [plB_snoc, Nat.zero_add, List.length_append, List.length_singleton]
    rfl
theorem allS_few (l : List Int) (h : l.length ≤ 31) : (allS l).pend.length + 1 ≤ 1000000 ∧ (allS l).writes + 1 ≤ 4611686018427387904 := by
  constructor
  · show (plB 0 l).length + 1 ≤ 1000000
    rw [plB_len]; omega
  · show ((l.length : Nat) : Int) + 1 ≤ _
    omega
theorem rdAll_len (l : List Int) (kl : List Bool) (k : Nat) : (rdAll l kl k).kept.length = 31 := by
  show (settleK _ 0 _ (List.replicate 31 _)).length = 31
  rw [settleK_len, List.length_replicate]
theorem rdAll_read (l : List Int) (kl : List Bool) (k : Nat) (hk : k < 31) : rdE (rdAll l kl k) k = 0 ∧ rdS (rdAll l kl k) k = rdAll l kl (k + 1) := by
  have hi : inS (rdAll l kl k) k = true := by
    unfold inS
    rw [rdAll_len, decide_eq_true (show (0 : Int) ≤ k by omega), decide_eq_true (show (k : Int) < (31 : Nat) by omega)]
    rfl
  have e : rdE (rdAll l kl k) k = 0 := by
    unfold rdE
    rw [hi]
    rfl
  exact ⟨e, by unfold rdS; rw [e]; rfl⟩
theorem rdAll_val (l : List Int) (kl : List Bool) (k : Nat) (hk : k < l.length) (hl : l.length ≤ 30) : rdV (rdAll l kl k) k = if kl.getD k false = true then fillB (nth l k) else zerosB := by
  unfold rdV
  rw [(rdAll_read l kl k (by omega)).1, if_pos rfl, Int.toNat_natCast]
  show ((settleK (fun i => kl.getD i false) 0 (plB 0 l) (List.replicate 31 (List.replicate 64 0)))[k]?).getD [] = _
  rw [settle_plB _ _ _ _ _ (by rw [List.length_replicate]; omega), Nat.sub_zero]
  by_cases h : kl.getD k false = true
  · rw [if_pos h, if_pos ⟨Nat.zero_le _, by omega, h⟩]
    rfl
  · rw [if_neg h, if_neg (fun c => h c.2.2), List.getElem?_replicate, if_pos (by omega)]
    rfl
theorem belowN {B : Nat} {a w : World} (h : Below B a w) (n : Nat) : Below B a (w.drewN n) := ⟨h.os, h.tape, h.output, h.size, h.block⟩
theorem r3164 : rightB 31 64 = true := by decide
set_option linter.unusedSimpArgs false in
set_option linter.unusedVariables false in
set_option maxRecDepth 100000 in
set_option maxHeartbeats 2000000 in
theorem diskAll_walk (a : Option Addr) (n c : Nat) (l : List Int) (ka : Option Addr) (kn kc : Nat) (kl : List Bool) (w : World) (hr : RdAt .u8 w a n c l) (hk : RdB w ka kn kc kl) : Calls Try.prog 3 #[.slice a n c, .slice ka kn kc] w fun e w' => e = .returned (.bool true) ∧ Below w.heap.size w w' := by
  have hlen := hr.len
  have hklen := hk.len
  have hkb := hk.lt
  by_cases hm : 30 < n
  · have d0 : decide ((30 : Int) < n) = true := decide_eq_true (by omega)
    clear hr hk hkb hlen hklen
    go_enter Try.func3, Try.ntmps3
    go_wp2_with fail
    refine (known_any _).mono ?_
    rintro e w1 ⟨rfl, hb1⟩
    go_wp2_with fail
    go_ret
    exact ⟨rfl, hb1⟩
  have d0 : decide ((30 : Int) < n) = false := decide_eq_false (by omega)
  by_cases hm2 : 100 < kn
  · have d1 : decide ((100 : Int) < kn) = true := decide_eq_true (by omega)
    clear hr hk hkb hlen hklen
    go_enter Try.func3, Try.ntmps3
    go_wp2_with fail
    refine (known_any _).mono ?_
    rintro e w1 ⟨rfl, hb1⟩
    go_wp2_with fail
    go_ret
    exact ⟨rfl, hb1⟩
  have d1 : decide ((100 : Int) < kn) = false := decide_eq_false (by omega)
  have HR := Lib.hid hr
  have HK := Lib.hid hk
  have HKB := Lib.hid hkb
  have HLEN := Lib.hid hlen
  have HKLEN := Lib.hid hklen
  clear hr hk hkb hlen hklen
  go_enter Try.func3, Try.ntmps3
  go_wp2_with fail
  refine (known_any _).mono ?_
  rintro e w1 ⟨rfl, hb1⟩
  have B1 := Lib.hid hb1
  clear hb1
  go_wp2_with fail
  refine (new_any 31 64 w1 r3164).mono ?_
  rintro e w2 ⟨d, Z, rfl, hd2, hz2, hb2⟩
  have D2 := Lib.hid (DkB.mk hd2 (fun k hk => Nat.le_trans B1.out.size (hz2 k hk)) (Below.call B1.out hb2) : DkB w w2 d Z (allS []))
  clear hd2 hz2 hb2
  go_wp2_with fail
  go_loopw [7] (fun i wr => ∃ (k : Nat) (Z : Nat → Prop), k ≤ n ∧ i = .int .i64 k ∧ Hid (DkB w wr d Z (allS (l.take k)))) (fun i _ => n - (intOf i).toNat)
  case atStart => exact ⟨0, Z, by omega, rfl, D2⟩
  case round =>
    clear D2 Z
    obtain ⟨k, Z, hk, rfl, D4⟩ := hrel
    by_cases hkm : k < n
    · have dkm : decide ((k : Int) < n) = true := decide_eq_true (by omega)
      obtain ⟨fb, fo, hfa, hfc⟩ := HR.out.cell k hkm
      subst hfa
      have hfl : fb < w.heap.size := block_lt_of_cell hfc
      have hwx : (Lit.int .u8 (nth l k)).wf = true := HR.out.wf _ (by rw [nth_eq (show k < l.length by rw [HLEN.out]; exact hkm)]; exact List.getElem_mem _)
      have hfc4 : wr.cell? ⟨fb, fo + k, none⟩ = some (.int .u8 (nth l k)) := by
        rw [← hfc]
        exact World.cell?_of_block (a := ⟨fb, fo + k, none⟩) (D4.out.below.block fb hfl)
      have HWX := Lib.hid hwx
      have HS := Lib.hid (D4.out.below.size)
      have htk : (l.take k).length = k := by rw [List.length_take]; have := HLEN.out; omega
      have hal := allS_write (l.take k) (nth l k) (by omega)
      have hfew := allS_few (l.take k) (by omega)
      have hsn : l.take k ++ [nth l k] = l.take (k + 1) := by
        have hkl : k < l.length := by rw [HLEN.out]; exact hkm
        rw [List.take_succ_eq_append_getElem hkl, nth_eq hkl]
      rw [htk, hsn] at hal
      have HAL := Lib.hid hal
      have HFEW := Lib.hid hfew
      clear hwx hal hfew hsn htk
      go_wp2_with fail
      obtain ⟨w6, hr2, hu2, hb2⟩ := mk64 wr
      rw [hr2]
      obtain ⟨b6, hb6⟩ : ∃ b6, (wr).heap.size = b6 := ⟨_, rfl⟩
      rw [hb6] at hu2 ⊢
      have U6 := Lib.hid hu2
      have BU6 := Lib.hid hb2
      have c0 := hu2.cell (i := 0) (by simp)
      have c1 := hu2.cell (i := 1) (by simp)
      have f0 := hu2.free 0
      have f1 := hu2.free 1
      have c9 : w6.cell? ⟨fb, fo + k, none⟩ = some (.int .u8 (nth l k)) := by
        rw [← hfc4]
        exact World.cell?_of_block (a := ⟨fb, fo + k, none⟩) (hb2.block fb (by have := HS.out; omega))
      have hne : fb ≠ b6 := by have := HS.out; omega
      clear hr2 hu2 hb2
      go_wp2_with fail
      obtain ⟨w7, hw7⟩ : ∃ w7, (w6.setCell ⟨b6, 0, none⟩ (.int .u8 (nth l k))).setCell ⟨b6, 1, none⟩ (.int .u8 1) = w7 := ⟨_, rfl⟩
      have U7 := Lib.hid (show BufAt w7 b6 (fillB (nth l k)) by rw [← hw7]; exact (U6.out.put 0 (nth l k) HWX.out).put 1 1 (by rfl))
      have hb7 : Below wr.heap.size wr w7 := by
        rw [← hw7]
        exact (BU6.out.trans (put_below _ _ _ _ _ (by omega))).trans (put_below _ _ _ _ _ (by omega))
      rw [hw7]
      have hz7 : ¬ Z b6 := fun h => by have := D4.out.din.1 b6 h; omega
      have D7 := Lib.hid (D4.out.more hb7)
      clear hw7 c0 c1 f0 f1 c9 U6 BU6 hb7 D4
      refine (write_any Z d (allS (l.take k)) k (some ⟨b6, 0, none⟩) 64 64 (fillB (nth l k)) w7 D7.out.din (U7.out.rd64 (fillB_len _)) (fun x hx => by injection hx with hx; subst hx; exact hz7) (by omega) (by omega) HFEW.out.1 HFEW.out.2).mono ?_
      rintro e w8 ⟨rfl, Z8, hd8, ht8⟩
      rw [HAL.out.1]
      rw [HAL.out.2] at hd8
      have D8 := Lib.hid (D7.out.turn hd8 ht8)
      clear hd8 ht8
      go_wp2_with fail
      go_roundw
      case rel => exact ⟨k + 1, Z8, by omega, by go_num, D8⟩
      case measure => simp [intOf] <;> omega
    · obtain rfl : k = n := by omega
      have htl : l.take k = l := by rw [← HLEN.out]; exact List.take_length
      rw [htl] at D4
      have B4 := Lib.hid D4.out.below
      have hrk : RdB wr ka kn kc kl := HK.out.kept (fun x h1 h2 => D4.out.below.block x.block (HKB.out x h1 h2))
      clear htl
      go_wp2_with fail
      refine (cut_any Z d (allS l) wr D4.out.din ka kn kc kl hrk (fun x h1 h2 => ⟨Nat.lt_of_lt_of_le (HKB.out x h1 h2) D4.out.below.size, fun hz => by have := D4.out.base _ hz; have := HKB.out x h1 h2; omega⟩)).mono ?_
      rintro e w5 ⟨rfl, hd5, ht5⟩
      have D5 := Lib.hid (D4.out.turn hd5 ht5)
      clear hd5 ht5 D4 hrk
      go_wp2_with fail
      refine (on_any Z d (cutS (allS l) kl) w5 D5.out.din).mono ?_
      rintro e w6 ⟨rfl, hd6, ht6⟩
      have D6 : Hid (DkB w w6 d Z (rdAll l kl 0)) := D5.out.turn hd6 ht6
      clear hd6 ht6 D5
      go_wp2_with fail
      go_loopw [9] (fun i wr2 => ∃ (j : Nat), j ≤ k ∧ i = .int .i64 j ∧ Hid (DkB w wr2 d Z (rdAll l kl j))) (fun i _ => k - (intOf i).toNat)
      case atStart => exact ⟨0, by omega, rfl, D6⟩
      case round =>
        clear D6
        obtain ⟨j, hj, rfl, D9⟩ := hrel
        by_cases hjm : j < k
        · have djm : decide ((j : Int) < k) = true := decide_eq_true (by omega)
          have E1 := Lib.hid (rdAll_read l kl j (by omega)).1
          have E2 := Lib.hid (rdAll_read l kl j (by omega)).2
          have E3 := Lib.hid (rdAll_val l kl j (by have := HLEN.out; omega) (by have := HLEN.out; omega))
          obtain ⟨fb, fo, hfa, hfc⟩ := HR.out.cell j hjm
          subst hfa
          have hfl : fb < w.heap.size := block_lt_of_cell hfc
          by_cases hkk : kl.getD j false = true
          · have hjn : j < kn := by
              rcases Nat.lt_or_ge j kn with h | h
              · exact h
              · rw [List.getD_eq_getElem?_getD, List.getElem?_eq_none (by have := HKLEN.out; omega)] at hkk
                cases hkk
            have hEI := Lib.hid hkk
            obtain ⟨kkb, kko, hka, hkc⟩ := HK.out.cell j hjn
            subst hka
            have hkl : kkb < w.heap.size := block_lt_of_cell hkc
            rw [hkk] at hkc
            have dkn : decide ((j : Int) < kn) = true := decide_eq_true (by omega)

            clear hkk
            go_wp2_with fail
            refine (read_any Z d (rdAll l kl j) j wr D9.out.din (by omega) (by omega) (by show ((j : Nat) : Int) + 1 ≤ _; omega)).mono ?_
            rintro e w7 ⟨v7, rfl, ho7, hd7, ht7⟩
            rw [E1.out]
            rw [E2.out] at hd7
            rw [E3.out, if_pos hEI.out] at ho7
            obtain ⟨g7, c7, hv7, hg7, hr7, hB7, hl7⟩ := ho7.slc (by rw [fillB_len]; omega)
            rw [fillB_len] at hv7 hr7
            subst hv7
            have D10 := Lib.hid (D9.out.turn hd7 ht7)
            obtain ⟨p1, p2, p3, p4⟩ := hr7.cell 0 (by omega)
            injection p3 with p3
            injection p3 with p5 p6
            subst p5 p6
            obtain ⟨q1, q2, q3, q4⟩ := hr7.cell 1 (by omega)
            injection q3 with q3
            injection q3 with q5 q6
            subst q5 q6
            rw [fillB_0] at p4
            rw [fillB_1] at q4
            have f4 : w7.cell? ⟨fb, fo + j, none⟩ = some (.int .u8 (nth l j)) := by
              rw [← hfc]
              exact World.cell?_of_block (a := ⟨fb, fo + j, none⟩) (D10.out.below.block fb hfl)
            have k4 : w7.cell? ⟨kkb, kko + j, none⟩ = some (.bool true) := by
              rw [← hkc]
              exact World.cell?_of_block (a := ⟨kkb, kko + j, none⟩) (D10.out.below.block kkb hkl)
            clear ho7 hd7 ht7 hr7 hg7 D9
            go_wp2_with fail
            go_quiet (fail)
            go_wp2_with fail
            go_roundw
            case rel => exact ⟨j + 1, by omega, by go_num, D10.out.more (belowN (Below.refl _ _) _)⟩
            case measure => simp [intOf] <;> omega

          · have hkf : kl.getD j false = false := by simpa using hkk
            have hEI := Lib.hid hkf
            by_cases hjn : j < kn
            · skip
              obtain ⟨kkb, kko, hka, hkc⟩ := HK.out.cell j hjn
              subst hka
              have hkl : kkb < w.heap.size := block_lt_of_cell hkc
              rw [hkf] at hkc
              have dkn : decide ((j : Int) < kn) = true := decide_eq_true (by omega)

              clear hkk hkf
              go_wp2_with fail
              refine (read_any Z d (rdAll l kl j) j wr D9.out.din (by omega) (by omega) (by show ((j : Nat) : Int) + 1 ≤ _; omega)).mono ?_
              rintro e w7 ⟨v7, rfl, ho7, hd7, ht7⟩
              rw [E1.out]
              rw [E2.out] at hd7
              rw [E3.out, if_neg (by rw [hEI.out]; decide)] at ho7
              obtain ⟨g7, c7, hv7, hg7, hr7, hB7, hl7⟩ := ho7.slc (by rw [zerosB_len]; omega)
              rw [zerosB_len] at hv7 hr7
              subst hv7
              have D10 := Lib.hid (D9.out.turn hd7 ht7)
              obtain ⟨p1, p2, p3, p4⟩ := hr7.cell 0 (by omega)
              injection p3 with p3
              injection p3 with p5 p6
              subst p5 p6
              obtain ⟨q1, q2, q3, q4⟩ := hr7.cell 1 (by omega)
              injection q3 with q3
              injection q3 with q5 q6
              subst q5 q6
              rw [zerosB_0] at p4
              rw [zerosB_1] at q4
              have f4 : w7.cell? ⟨fb, fo + j, none⟩ = some (.int .u8 (nth l j)) := by
                rw [← hfc]
                exact World.cell?_of_block (a := ⟨fb, fo + j, none⟩) (D10.out.below.block fb hfl)
              have k4 : w7.cell? ⟨kkb, kko + j, none⟩ = some (.bool false) := by
                rw [← hkc]
                exact World.cell?_of_block (a := ⟨kkb, kko + j, none⟩) (D10.out.below.block kkb hkl)
              clear ho7 hd7 ht7 hr7 hg7 D9
              go_wp2_with fail
              go_quiet (fail)
              go_wp2_with fail
              go_roundw
              case rel => exact ⟨j + 1, by omega, by go_num, D10.out.more (belowN (Below.refl _ _) _)⟩
              case measure => simp [intOf] <;> omega

            · have dkn : decide ((j : Int) < kn) = false := decide_eq_false (by omega)
              clear hkk hkf
              go_wp2_with fail
              refine (read_any Z d (rdAll l kl j) j wr D9.out.din (by omega) (by omega) (by show ((j : Nat) : Int) + 1 ≤ _; omega)).mono ?_
              rintro e w7 ⟨v7, rfl, ho7, hd7, ht7⟩
              rw [E1.out]
              rw [E2.out] at hd7
              rw [E3.out, if_neg (by rw [hEI.out]; decide)] at ho7
              obtain ⟨g7, c7, hv7, hg7, hr7, hB7, hl7⟩ := ho7.slc (by rw [zerosB_len]; omega)
              rw [zerosB_len] at hv7 hr7
              subst hv7
              have D10 := Lib.hid (D9.out.turn hd7 ht7)
              obtain ⟨p1, p2, p3, p4⟩ := hr7.cell 0 (by omega)
              injection p3 with p3
              injection p3 with p5 p6
              subst p5 p6
              obtain ⟨q1, q2, q3, q4⟩ := hr7.cell 1 (by omega)
              injection q3 with q3
              injection q3 with q5 q6
              subst q5 q6
              rw [zerosB_0] at p4
              rw [zerosB_1] at q4
              have f4 : w7.cell? ⟨fb, fo + j, none⟩ = some (.int .u8 (nth l j)) := by
                rw [← hfc]
                exact World.cell?_of_block (a := ⟨fb, fo + j, none⟩) (D10.out.below.block fb hfl)
              clear ho7 hd7 ht7 hr7 hg7 D9
              go_wp2_with fail
              go_quiet (fail)
              go_wp2_with fail
              go_roundw
              case rel => exact ⟨j + 1, by omega, by go_num, D10.out.more (belowN (Below.refl _ _) _)⟩
              case measure => simp [intOf] <;> omega

        · obtain rfl : j = k := by omega
          have hwr : (rdAll l kl j).writes = (j : Int) := by show ((l.length : Nat) : Int) = j; rw [HLEN.out]
          have HWR := Lib.hid hwr
          clear hwr
          go_wp2_with fail
          refine (writes_any Z d (rdAll l kl j) wr D9.out.din).mono ?_
          rintro e w7 ⟨rfl, rfl⟩
          rw [HWR.out]
          go_wp2_with fail
          go_ret
          exact ⟨rfl, D9.out.below⟩

end Go.Proofs.Ytpgncmoagmkcmaa
