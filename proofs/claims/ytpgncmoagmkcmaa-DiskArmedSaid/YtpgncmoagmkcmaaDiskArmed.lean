/- disk: of writes just so many are OK ahead of the cut that was armed. -/
import Derived.Test.YtpgncmoagmkcmaaDkK
namespace Go.Proofs.Ytpgncmoagmkcmaa
open Go.RowKit
/-- A disk of four sectors, armed at write n, behind i writes. -/
structure ArmI (n i : Int) (st : Dk) : Prop where
  size : st.size = 64
  len : st.kept.length = 4
  reads : st.reads = 0
  keep : st.keep = []
  lo : i < n → st.off = false ∧ st.armed = n - i ∧ st.writes = i ∧ (st.pend.length : Int) ≤ i
  hi : n ≤ i → st.off = true ∧ st.armed = 0 ∧ st.writes = n - 1 ∧ st.pend = []
theorem armI_start (n0 n : Int) (h1 : 1 ≤ n) (hn : (if n0 < 1 then 1 else n0) = n) : ArmI n 0 (armS (dk0 4 64) n0 []) :=
  ⟨rfl, by rfl, rfl, rfl, fun h => ⟨rfl, by show (if n0 < 1 then 1 else n0) = n - 0; omega, rfl, by show ((List.length ([] : List (Int × List Int)) : Nat) : Int) ≤ 0; simp⟩, fun h => by omega⟩
theorem armI_flush {n i : Int} {st : Dk} (h : ArmI n i st) : ArmI n i (if st.off = true then st else flushS st) := by
  by_cases ho : st.off = true
  · rw [if_pos ho]; exact h
  · rw [if_neg ho]
    refine ⟨h.size, by show (settleK _ 0 st.pend st.kept).length = 4; rw [settleK_len]; exact h.len, h.reads, h.keep, fun hi => ⟨(h.lo hi).1, (h.lo hi).2.1, (h.lo hi).2.2.1, ?_⟩, fun hi => absurd (h.hi hi).1 ho⟩
    show ((List.length ([] : List (Int × List Int)) : Nat) : Int) ≤ i
    have := (h.lo hi).2.2.2
    simp
    omega
theorem armI_write {n i : Int} {st : Dk} (h : ArmI n i st) (s : Int) (l : List Int) (hl : l.length = 64) (s0 : 0 ≤ s) (s1 : s < 4) : ArmI n (i + 1) (wrS st s l) ∧ wrE st s l = if i + 1 < n then 0 else 8 := by
  have hf : fitW st s l = true := by
    unfold fitW
    rw [decide_eq_true s0, decide_eq_true (show s < st.kept.length by rw [h.len]; exact s1), decide_eq_true (show l.length = st.size by rw [hl, h.size])]
    rfl
  by_cases hin : i < n
  · obtain ⟨ho, ha, hw, hp⟩ := h.lo hin
    by_cases h1 : i + 1 < n
    · have ha1 : ¬ st.armed = 1 := by omega
      have e1 : wrE st s l = 0 := by unfold wrE; rw [ho, hf]; simp [ha1]
      have e2 : wrS st s l = putS st s l := by unfold wrS; rw [ho, hf]; simp [ha1]
      rw [e1, e2, if_pos h1]
      refine ⟨⟨h.size, h.len, h.reads, h.keep, fun _ => ⟨ho, ?_, ?_, ?_⟩, fun h2 => by omega⟩, rfl⟩
      · show (if st.armed = 0 then 0 else st.armed - 1) = n - (i + 1)
        rw [if_neg (by omega)]; omega
      · show st.writes + 1 = i + 1
        omega
      · show (((st.pend ++ [(s, l)]).length : Nat) : Int) ≤ i + 1
        rw [List.length_append, List.length_singleton]; omega
    · have ha1 : st.armed = 1 := by omega
      have e1 : wrE st s l = 8 := by unfold wrE; rw [ho, hf]; simp [ha1]
      have e2 : wrS st s l = cutS st st.keep := by unfold wrS; rw [ho, hf]; simp [ha1]
      rw [e1, e2, if_neg h1]
      refine ⟨⟨h.size, by show (settleK _ 0 st.pend st.kept).length = 4; rw [settleK_len]; exact h.len, h.reads, h.keep, fun h2 => by omega, fun _ => ⟨rfl, rfl, ?_, rfl⟩⟩, rfl⟩
      show st.writes = n - 1
      omega
  · obtain ⟨ho, ha, hw, hp⟩ := h.hi (by omega)
    have e1 : wrE st s l = 8 := by unfold wrE; rw [ho]; rfl
    have e2 : wrS st s l = st := by unfold wrS; rw [ho]; rfl
    rw [e1, e2, if_neg (by omega)]
    exact ⟨⟨h.size, h.len, h.reads, h.keep, fun h2 => by omega, fun _ => ⟨ho, ha, hw, hp⟩⟩, rfl⟩
theorem armI_few {n i : Int} {st : Dk} (h : ArmI n i st) (_h1 : 1 ≤ n) (h0 : 0 ≤ i) (hi : i ≤ 200) : st.pend.length + 1 ≤ 1000000 ∧ st.writes + 1 ≤ 4611686018427387904 := by
  by_cases hin : i < n
  · obtain ⟨_, _, hw, hp⟩ := h.lo hin
    omega
  · obtain ⟨_, _, hw, hp⟩ := h.hi (by omega)
    rw [hp]
    simp
    omega
/-- Behind the cut, the power on: a write is pending. -/
theorem armI_on {n i : Int} {st : Dk} (h : ArmI n i st) (hi : n ≤ i) (l : List Int) (hl : l.length = 64) :
    rdE st 0 = 8 ∧ rdS st 0 = st ∧ wrE { st with off := false } 0 l = 0 ∧ (wrS { st with off := false } 0 l).pend.length = 1 := by
  obtain ⟨ho, ha, hw, hp⟩ := h.hi hi
  have e1 : rdE st 0 = 8 := by unfold rdE; rw [ho]; rfl
  have hf : fitW { st with off := false } 0 l = true := by
    unfold fitW
    rw [decide_eq_true (show (0:Int) ≤ 0 by omega), decide_eq_true (show (0:Int) < st.kept.length by rw [h.len]; omega), decide_eq_true (show l.length = st.size by rw [hl, h.size])]
    rfl
  refine ⟨e1, by unfold rdS; rw [e1]; rfl, ?_, ?_⟩
  · unfold wrE; rw [hf]; simp [ha]
  · unfold wrS; rw [hf]; simp [ha, putS, hp]
theorem BufAt.rd64 {w : World} {b : Nat} {l : List Int} (h : BufAt w b l) (hl : l.length = 64) : RdAt .u8 w (some ⟨b, 0, none⟩) 64 64 l := by
  have := h.rd
  rw [hl] at this
  exact this
theorem r464 : rightB 4 64 = true := by decide
set_option linter.unusedSimpArgs false in
set_option linter.unusedVariables false in
set_option maxRecDepth 100000 in
set_option maxHeartbeats 2000000 in
theorem diskArmed_walk (n0 : Int) (m0 : Int) (f0 : Int) (w : World) (hw0 : (Lit.int .i64 n0).wf = true) (_ : (Lit.int .i64 m0).wf = true) (_ : (Lit.int .i64 f0).wf = true) : Calls Try.prog 4 #[.int .i64 n0, .int .i64 m0, .int .i64 f0] w fun e w' => e = .returned (.bool true) ∧ Below w.heap.size w w' := by
  have hn1 : -9223372036854775808 ≤ n0 := by
    simp [Lit.wf, IntKind.min, IntKind.max, IntKind.signed, IntKind.bits] at hw0; omega
  have hn2 : n0 ≤ 9223372036854775807 := by
    simp [Lit.wf, IntKind.min, IntKind.max, IntKind.signed, IntKind.bits] at hw0; omega
  clear hw0
  by_cases hm : ¬ (0 ≤ m0 ∧ m0 ≤ 100)
  · by_cases h0 : m0 < 0
    · have d0 : decide (m0 < 0) = true := decide_eq_true h0
      go_enter Try.func4, Try.ntmps4
      go_wp2_with fail
      refine (known_any _).mono ?_
      rintro e w1 ⟨rfl, hb1⟩
      go_wp2_with fail
      go_ret
      exact ⟨rfl, hb1⟩
    · have d0 : decide (m0 < 0) = false := decide_eq_false h0
      have d1 : decide (100 < m0) = true := decide_eq_true (by omega)
      go_enter Try.func4, Try.ntmps4
      go_wp2_with fail
      refine (known_any _).mono ?_
      rintro e w1 ⟨rfl, hb1⟩
      go_wp2_with fail
      go_ret
      exact ⟨rfl, hb1⟩
  replace hm := Classical.not_not.1 hm
  obtain ⟨m, rfl⟩ := Int.eq_ofNat_of_zero_le hm.1
  have hm1 : m ≤ 100 := by omega
  have dm1 : decide ((m : Int) < 0) = false := decide_eq_false (by omega)
  have dm2 : decide ((100 : Int) < m) = false := decide_eq_false (by omega)
  by_cases hlt : n0 < 1
  · have h1 : (1 : Int) ≤ 1 := by omega
    have hN : (if n0 < 1 then 1 else n0) = 1 := if_pos hlt
    have dlt : decide (n0 < 1) = true := decide_eq_true hlt
    go_enter Try.func4, Try.ntmps4
    go_wp2_with fail
    refine (known_any _).mono ?_
    rintro e w1 ⟨rfl, hb1⟩
    have B1 := Lib.hid hb1
    clear hb1
    go_wp2_with fail
    refine (new_any 4 64 w1 r464).mono ?_
    rintro e w2 ⟨d, Z, rfl, hd2, hz2, hb2⟩
    have D2 := Lib.hid (DkB.mk hd2 (fun k hk => Nat.le_trans B1.out.size (hz2 k hk)) (Below.call B1.out hb2) : DkB w w2 d Z (dk0 4 64))
    clear hd2 hz2 hb2
    go_wp2_with fail
    refine (arm_nil Z d (dk0 4 64) n0 w2 D2.out.din hn1 hn2).mono ?_
    rintro e w3 ⟨rfl, hd3, ht3⟩
    have D3 := Lib.hid (D2.out.turn hd3 ht3)
    have I3 := Lib.hid (armI_start n0 1 h1 hN)
    clear D2 hd3 ht3
    go_wp2_with fail
    go_loopw [9, 10] (fun ok i wr => ∃ (k : Nat) (c : Int) (st : Dk) (Z : Nat → Prop), k ≤ m ∧ i = .int .i64 k ∧ ok = .int .i64 c ∧ Hid (c = if (k : Int) < 1 then (k : Int) else 1 - 1) ∧ Hid (DkB w wr d Z st) ∧ Hid (ArmI 1 k st)) (fun _ i _ => m - (intOf i).toNat)
    case atStart => exact ⟨0, 0, _, Z, by omega, rfl, rfl, by rw [if_pos (show ((0:Nat):Int) < 1 by omega)]; rfl, D3, I3⟩
    case round =>
      clear D3 I3 Z
      obtain ⟨k, c, st, Z, hk, rfl, rfl, C4, D4, I4⟩ := hrel
      have hkr : IntKind.i64.wrap (Int.tmod (k : Int) 4) = (k : Int) % 4 := by
        rw [IntKind.wrap_i64, Int.tmod_eq_emod_of_nonneg (by omega)]; omega
      have hkt : Int.tmod (k : Int) 4 = (k : Int) % 4 := Int.tmod_eq_emod_of_nonneg (by omega)
      have hc0 : 0 ≤ c ∧ c ≤ 100 := by
        have := C4.out
        split at this <;> omega
      have wc : IntKind.i64.wrap (c + 1) = c + 1 := by rw [IntKind.wrap_i64]; omega
      by_cases hkm : k < m
      · have dkm : decide ((k : Int) < m) = true := decide_eq_true (by omega)
        by_cases hf : (k : Int) = f0
        · subst hf
          go_wp2_with fail
          refine (flush_any Z d st wr D4.out.din).mono ?_
          rintro e w5 ⟨rfl, hd5, ht5⟩
          have D5 := Lib.hid (D4.out.turn hd5 ht5)
          have I5 := Lib.hid (armI_flush I4.out)
          clear hd5 ht5
          generalize (if st.off = true then st else flushS st) = st5 at D5 I5
          go_wp2_with fail
          all_goals
            obtain ⟨w6, hr2, hu2, hb2⟩ := mk64 w5
            rw [hr2]
            obtain ⟨b6, hb6⟩ : ∃ b6, (w5).heap.size = b6 := ⟨_, rfl⟩
            rw [hb6] at hu2 ⊢
            have U6 := Lib.hid hu2
            have BU6 := Lib.hid hb2
            clear hr2 hu2 hb2
            have D6 := Lib.hid (D5.out.more BU6.out)
            have hz6 : ¬ Z b6 := fun h => by have := D5.out.din.1 b6 h; omega
            obtain ⟨hI7, hE7⟩ := armI_write I5.out ((k : Int) % 4) (List.replicate 64 0) (by simp) (by omega) (by omega)
            have I7 := Lib.hid hI7
            have E7 := Lib.hid hE7
            have hfew := armI_few I5.out h1 (by omega) (by omega)
            have HFEW := Lib.hid hfew
            clear hI7 hE7 hfew
            go_wp2_with fail
            refine (write_any Z d st5 ((k : Int) % 4) (some ⟨b6, 0, none⟩) 64 64 (List.replicate 64 0) w6 D6.out.din (U6.out.rd64 (by simp)) (fun x hx => by injection hx with hx; subst hx; exact hz6) (by omega) (by omega) HFEW.out.1 HFEW.out.2).mono ?_
            rintro e w7 ⟨rfl, Z7, hd7, ht7⟩
            rw [E7.out]
            have D7 := Lib.hid (D6.out.turn hd7 ht7)
            clear hd7 ht7
            by_cases hok : (k : Int) + 1 < 1
            · rw [if_pos hok]
              have hcc : c + 1 = (if ((k + 1 : Nat) : Int) < 1 then ((k + 1 : Nat) : Int) else 1 - 1) := by
                rw [C4.out, if_pos (show (k : Int) < 1 by omega), if_pos (by omega)]; omega
              have HCC := Lib.hid hcc
              clear hcc
              go_wp2_with fail
              go_roundw
              case rel => exact ⟨k + 1, c + 1, _, Z7, by omega, by go_num, rfl, HCC, D7, I7⟩
              case measure => simp [intOf] <;> omega
            · rw [if_neg hok]
              have hcc : c = (if ((k + 1 : Nat) : Int) < 1 then ((k + 1 : Nat) : Int) else 1 - 1) := by
                rw [C4.out, if_neg (show ¬ ((k + 1 : Nat) : Int) < 1 by omega)]
                by_cases h : (k : Int) < 1
                · rw [if_pos h]; omega
                · rw [if_neg h]
              have HCC := Lib.hid hcc
              clear hcc
              go_wp2_with fail
              go_roundw
              case rel => exact ⟨k + 1, c, _, Z7, by omega, by go_num, rfl, HCC, D7, I7⟩
              case measure => simp [intOf] <;> omega

        · have dkf : decide ((k : Int) = f0) = false := decide_eq_false hf
          go_wp2_with fail
          all_goals
            obtain ⟨w6, hr2, hu2, hb2⟩ := mk64 wr
            rw [hr2]
            obtain ⟨b6, hb6⟩ : ∃ b6, (wr).heap.size = b6 := ⟨_, rfl⟩
            rw [hb6] at hu2 ⊢
            have U6 := Lib.hid hu2
            have BU6 := Lib.hid hb2
            clear hr2 hu2 hb2
            have D6 := Lib.hid (D4.out.more BU6.out)
            have hz6 : ¬ Z b6 := fun h => by have := D4.out.din.1 b6 h; omega
            obtain ⟨hI7, hE7⟩ := armI_write I4.out ((k : Int) % 4) (List.replicate 64 0) (by simp) (by omega) (by omega)
            have I7 := Lib.hid hI7
            have E7 := Lib.hid hE7
            have hfew := armI_few I4.out h1 (by omega) (by omega)
            have HFEW := Lib.hid hfew
            clear hI7 hE7 hfew
            go_wp2_with fail
            refine (write_any Z d st ((k : Int) % 4) (some ⟨b6, 0, none⟩) 64 64 (List.replicate 64 0) w6 D6.out.din (U6.out.rd64 (by simp)) (fun x hx => by injection hx with hx; subst hx; exact hz6) (by omega) (by omega) HFEW.out.1 HFEW.out.2).mono ?_
            rintro e w7 ⟨rfl, Z7, hd7, ht7⟩
            rw [E7.out]
            have D7 := Lib.hid (D6.out.turn hd7 ht7)
            clear hd7 ht7
            by_cases hok : (k : Int) + 1 < 1
            · rw [if_pos hok]
              have hcc : c + 1 = (if ((k + 1 : Nat) : Int) < 1 then ((k + 1 : Nat) : Int) else 1 - 1) := by
                rw [C4.out, if_pos (show (k : Int) < 1 by omega), if_pos (by omega)]; omega
              have HCC := Lib.hid hcc
              clear hcc
              go_wp2_with fail
              go_roundw
              case rel => exact ⟨k + 1, c + 1, _, Z7, by omega, by go_num, rfl, HCC, D7, I7⟩
              case measure => simp [intOf] <;> omega
            · rw [if_neg hok]
              have hcc : c = (if ((k + 1 : Nat) : Int) < 1 then ((k + 1 : Nat) : Int) else 1 - 1) := by
                rw [C4.out, if_neg (show ¬ ((k + 1 : Nat) : Int) < 1 by omega)]
                by_cases h : (k : Int) < 1
                · rw [if_pos h]; omega
                · rw [if_neg h]
              have HCC := Lib.hid hcc
              clear hcc
              go_wp2_with fail
              go_roundw
              case rel => exact ⟨k + 1, c, _, Z7, by omega, by go_num, rfl, HCC, D7, I7⟩
              case measure => simp [intOf] <;> omega

      · obtain rfl : k = m := by omega
        by_cases hle : 1 ≤ (k : Int)
        · have dle : decide (1 ≤ (k : Int)) = true := decide_eq_true hle
          obtain ⟨g1, g2, g3, g4⟩ := I4.out.hi hle
          obtain rfl : c = 0 := by rw [C4.out, if_neg (by omega)]; rfl
          have wn : IntKind.i64.wrap (1 - 1) = 1 - 1 := by rw [IntKind.wrap_i64]; omega
          replace g3 : st.writes = 0 := g3
          obtain ⟨t1, t2, t3, t4⟩ := armI_on I4.out hle (List.replicate 64 0) (by simp)
          have hrd0 := I4.out.reads
          have hfew := armI_few I4.out h1 (by omega) (by omega)
          have G1 := Lib.hid g1
          have G3 := Lib.hid g3
          have T1 := Lib.hid t1
          have T2 := Lib.hid t2
          have T3 := Lib.hid t3
          have T4 := Lib.hid t4
          clear g1 g2 g3 g4 t1 t2 t3 t4
          go_wp2_with fail
          refine (off_any Z d st wr D4.out.din).mono ?_
          rintro e w5 ⟨rfl, rfl⟩
          rw [G1.out]
          go_wp2_with fail
          refine (writes_any Z d st wr D4.out.din).mono ?_
          rintro e w5 ⟨rfl, rfl⟩
          rw [G3.out]
          go_wp2_with fail
          refine (off_any Z d st wr D4.out.din).mono ?_
          rintro e w5 ⟨rfl, rfl⟩
          rw [G1.out]
          go_wp2_with fail
          refine (read_any Z d st 0 wr D4.out.din (by omega) (by omega) (by omega)).mono ?_
          rintro e w5 ⟨v5, rfl, ho5, hd5, ht5⟩
          rw [T1.out]
          rw [T2.out] at hd5
          have D5 := Lib.hid (D4.out.turn hd5 ht5)
          obtain ⟨a5, c5, hv5⟩ := ho5.shape
          subst hv5
          clear ho5 hd5 ht5 D4
          go_wp2_with fail
          refine (flush_any Z d st w5 D5.out.din).mono ?_
          rintro e w6 ⟨rfl, hd6, ht6⟩
          rw [if_pos G1.out]
          rw [if_pos G1.out] at hd6
          have D6 := Lib.hid (D5.out.turn hd6 ht6)
          clear D5 hd6 ht6
          go_wp2_with fail
          refine (on_any Z d st w6 D6.out.din).mono ?_
          rintro e w7 ⟨rfl, hd7, ht7⟩
          have D7 := Lib.hid (D6.out.turn hd7 ht7)
          clear D6 hd7 ht7
          go_wp2_with fail
          obtain ⟨w8, hr2, hu2, hb2⟩ := mk64 w7
          rw [hr2]
          obtain ⟨b8, hb8⟩ : ∃ b8, (w7).heap.size = b8 := ⟨_, rfl⟩
          rw [hb8] at hu2 ⊢
          have U8 := Lib.hid hu2
          have BU8 := Lib.hid hb2
          clear hr2 hu2 hb2

          have D8 := Lib.hid (D7.out.more BU8.out)
          have hz8 : ¬ Z b8 := fun h => by have := D7.out.din.1 b8 h; omega
          go_wp2_with fail
          refine (write_any Z d { st with off := false } 0 (some ⟨b8, 0, none⟩) 64 64 (List.replicate 64 0) w8 D8.out.din (U8.out.rd64 (by simp)) (fun x hx => by injection hx with hx; subst hx; exact hz8) (by omega) (by omega) hfew.1 hfew.2).mono ?_
          rintro e w9 ⟨rfl, Z9, hd9, ht9⟩
          rw [T3.out]
          have D9 := Lib.hid (D8.out.turn hd9 ht9)
          clear D8 hd9 ht9
          go_wp2_with fail
          refine (pending_any Z9 d _ w9 D9.out.din).mono ?_
          rintro e w10 ⟨rfl, rfl⟩
          rw [T4.out]
          go_wp2_with fail
          go_ret
          exact ⟨rfl, D9.out.below⟩
        · have dle : decide (1 ≤ (k : Int)) = false := decide_eq_false hle
          obtain ⟨g1, g2, g3, g4⟩ := I4.out.lo (by omega)
          obtain rfl : c = (k : Int) := by rw [C4.out, if_pos (by omega)]
          have G1 := Lib.hid g1
          have G3 := Lib.hid g3
          clear g1 g2 g3 g4
          go_wp2_with fail
          refine (off_any Z d st wr D4.out.din).mono ?_
          rintro e w5 ⟨rfl, rfl⟩
          rw [G1.out]
          go_wp2_with fail
          refine (writes_any Z d st wr D4.out.din).mono ?_
          rintro e w5 ⟨rfl, rfl⟩
          rw [G3.out]
          go_wp2_with fail
          refine (off_any Z d st wr D4.out.din).mono ?_
          rintro e w5 ⟨rfl, rfl⟩
          rw [G1.out]
          go_wp2_with fail
          go_ret
          exact ⟨rfl, D4.out.below⟩

  · have h1 : (1 : Int) ≤ n0 := by omega
    have hN : (if n0 < 1 then 1 else n0) = n0 := if_neg hlt
    have dlt : decide (n0 < 1) = false := decide_eq_false hlt
    go_enter Try.func4, Try.ntmps4
    go_wp2_with fail
    refine (known_any _).mono ?_
    rintro e w1 ⟨rfl, hb1⟩
    have B1 := Lib.hid hb1
    clear hb1
    go_wp2_with fail
    refine (new_any 4 64 w1 r464).mono ?_
    rintro e w2 ⟨d, Z, rfl, hd2, hz2, hb2⟩
    have D2 := Lib.hid (DkB.mk hd2 (fun k hk => Nat.le_trans B1.out.size (hz2 k hk)) (Below.call B1.out hb2) : DkB w w2 d Z (dk0 4 64))
    clear hd2 hz2 hb2
    go_wp2_with fail
    refine (arm_nil Z d (dk0 4 64) n0 w2 D2.out.din hn1 hn2).mono ?_
    rintro e w3 ⟨rfl, hd3, ht3⟩
    have D3 := Lib.hid (D2.out.turn hd3 ht3)
    have I3 := Lib.hid (armI_start n0 n0 h1 hN)
    clear D2 hd3 ht3
    go_wp2_with fail
    go_loopw [9, 10] (fun ok i wr => ∃ (k : Nat) (c : Int) (st : Dk) (Z : Nat → Prop), k ≤ m ∧ i = .int .i64 k ∧ ok = .int .i64 c ∧ Hid (c = if (k : Int) < n0 then (k : Int) else n0 - 1) ∧ Hid (DkB w wr d Z st) ∧ Hid (ArmI n0 k st)) (fun _ i _ => m - (intOf i).toNat)
    case atStart => exact ⟨0, 0, _, Z, by omega, rfl, rfl, by rw [if_pos (show ((0:Nat):Int) < n0 by omega)]; rfl, D3, I3⟩
    case round =>
      clear D3 I3 Z
      obtain ⟨k, c, st, Z, hk, rfl, rfl, C4, D4, I4⟩ := hrel
      have hkr : IntKind.i64.wrap (Int.tmod (k : Int) 4) = (k : Int) % 4 := by
        rw [IntKind.wrap_i64, Int.tmod_eq_emod_of_nonneg (by omega)]; omega
      have hkt : Int.tmod (k : Int) 4 = (k : Int) % 4 := Int.tmod_eq_emod_of_nonneg (by omega)
      have hc0 : 0 ≤ c ∧ c ≤ 100 := by
        have := C4.out
        split at this <;> omega
      have wc : IntKind.i64.wrap (c + 1) = c + 1 := by rw [IntKind.wrap_i64]; omega
      by_cases hkm : k < m
      · have dkm : decide ((k : Int) < m) = true := decide_eq_true (by omega)
        by_cases hf : (k : Int) = f0
        · subst hf
          go_wp2_with fail
          refine (flush_any Z d st wr D4.out.din).mono ?_
          rintro e w5 ⟨rfl, hd5, ht5⟩
          have D5 := Lib.hid (D4.out.turn hd5 ht5)
          have I5 := Lib.hid (armI_flush I4.out)
          clear hd5 ht5
          generalize (if st.off = true then st else flushS st) = st5 at D5 I5
          go_wp2_with fail
          all_goals
            obtain ⟨w6, hr2, hu2, hb2⟩ := mk64 w5
            rw [hr2]
            obtain ⟨b6, hb6⟩ : ∃ b6, (w5).heap.size = b6 := ⟨_, rfl⟩
            rw [hb6] at hu2 ⊢
            have U6 := Lib.hid hu2
            have BU6 := Lib.hid hb2
            clear hr2 hu2 hb2
            have D6 := Lib.hid (D5.out.more BU6.out)
            have hz6 : ¬ Z b6 := fun h => by have := D5.out.din.1 b6 h; omega
            obtain ⟨hI7, hE7⟩ := armI_write I5.out ((k : Int) % 4) (List.replicate 64 0) (by simp) (by omega) (by omega)
            have I7 := Lib.hid hI7
            have E7 := Lib.hid hE7
            have hfew := armI_few I5.out h1 (by omega) (by omega)
            have HFEW := Lib.hid hfew
            clear hI7 hE7 hfew
            go_wp2_with fail
            refine (write_any Z d st5 ((k : Int) % 4) (some ⟨b6, 0, none⟩) 64 64 (List.replicate 64 0) w6 D6.out.din (U6.out.rd64 (by simp)) (fun x hx => by injection hx with hx; subst hx; exact hz6) (by omega) (by omega) HFEW.out.1 HFEW.out.2).mono ?_
            rintro e w7 ⟨rfl, Z7, hd7, ht7⟩
            rw [E7.out]
            have D7 := Lib.hid (D6.out.turn hd7 ht7)
            clear hd7 ht7
            by_cases hok : (k : Int) + 1 < n0
            · rw [if_pos hok]
              have hcc : c + 1 = (if ((k + 1 : Nat) : Int) < n0 then ((k + 1 : Nat) : Int) else n0 - 1) := by
                rw [C4.out, if_pos (show (k : Int) < n0 by omega), if_pos (by omega)]; omega
              have HCC := Lib.hid hcc
              clear hcc
              go_wp2_with fail
              go_roundw
              case rel => exact ⟨k + 1, c + 1, _, Z7, by omega, by go_num, rfl, HCC, D7, I7⟩
              case measure => simp [intOf] <;> omega
            · rw [if_neg hok]
              have hcc : c = (if ((k + 1 : Nat) : Int) < n0 then ((k + 1 : Nat) : Int) else n0 - 1) := by
                rw [C4.out, if_neg (show ¬ ((k + 1 : Nat) : Int) < n0 by omega)]
                by_cases h : (k : Int) < n0
                · rw [if_pos h]; omega
                · rw [if_neg h]
              have HCC := Lib.hid hcc
              clear hcc
              go_wp2_with fail
              go_roundw
              case rel => exact ⟨k + 1, c, _, Z7, by omega, by go_num, rfl, HCC, D7, I7⟩
              case measure => simp [intOf] <;> omega

        · have dkf : decide ((k : Int) = f0) = false := decide_eq_false hf
          go_wp2_with fail
          all_goals
            obtain ⟨w6, hr2, hu2, hb2⟩ := mk64 wr
            rw [hr2]
            obtain ⟨b6, hb6⟩ : ∃ b6, (wr).heap.size = b6 := ⟨_, rfl⟩
            rw [hb6] at hu2 ⊢
            have U6 := Lib.hid hu2
            have BU6 := Lib.hid hb2
            clear hr2 hu2 hb2
            have D6 := Lib.hid (D4.out.more BU6.out)
            have hz6 : ¬ Z b6 := fun h => by have := D4.out.din.1 b6 h; omega
            obtain ⟨hI7, hE7⟩ := armI_write I4.out ((k : Int) % 4) (List.replicate 64 0) (by simp) (by omega) (by omega)
            have I7 := Lib.hid hI7
            have E7 := Lib.hid hE7
            have hfew := armI_few I4.out h1 (by omega) (by omega)
            have HFEW := Lib.hid hfew
            clear hI7 hE7 hfew
            go_wp2_with fail
            refine (write_any Z d st ((k : Int) % 4) (some ⟨b6, 0, none⟩) 64 64 (List.replicate 64 0) w6 D6.out.din (U6.out.rd64 (by simp)) (fun x hx => by injection hx with hx; subst hx; exact hz6) (by omega) (by omega) HFEW.out.1 HFEW.out.2).mono ?_
            rintro e w7 ⟨rfl, Z7, hd7, ht7⟩
            rw [E7.out]
            have D7 := Lib.hid (D6.out.turn hd7 ht7)
            clear hd7 ht7
            by_cases hok : (k : Int) + 1 < n0
            · rw [if_pos hok]
              have hcc : c + 1 = (if ((k + 1 : Nat) : Int) < n0 then ((k + 1 : Nat) : Int) else n0 - 1) := by
                rw [C4.out, if_pos (show (k : Int) < n0 by omega), if_pos (by omega)]; omega
              have HCC := Lib.hid hcc
              clear hcc
              go_wp2_with fail
              go_roundw
              case rel => exact ⟨k + 1, c + 1, _, Z7, by omega, by go_num, rfl, HCC, D7, I7⟩
              case measure => simp [intOf] <;> omega
            · rw [if_neg hok]
              have hcc : c = (if ((k + 1 : Nat) : Int) < n0 then ((k + 1 : Nat) : Int) else n0 - 1) := by
                rw [C4.out, if_neg (show ¬ ((k + 1 : Nat) : Int) < n0 by omega)]
                by_cases h : (k : Int) < n0
                · rw [if_pos h]; omega
                · rw [if_neg h]
              have HCC := Lib.hid hcc
              clear hcc
              go_wp2_with fail
              go_roundw
              case rel => exact ⟨k + 1, c, _, Z7, by omega, by go_num, rfl, HCC, D7, I7⟩
              case measure => simp [intOf] <;> omega

      · obtain rfl : k = m := by omega
        by_cases hle : n0 ≤ (k : Int)
        · have dle : decide (n0 ≤ (k : Int)) = true := decide_eq_true hle
          obtain ⟨g1, g2, g3, g4⟩ := I4.out.hi hle
          obtain rfl : c = n0 - 1 := by rw [C4.out, if_neg (by omega)]
          have wn : IntKind.i64.wrap (n0 - 1) = n0 - 1 := by rw [IntKind.wrap_i64]; omega
          replace g3 : st.writes = n0 - 1 := g3
          obtain ⟨t1, t2, t3, t4⟩ := armI_on I4.out hle (List.replicate 64 0) (by simp)
          have hrd0 := I4.out.reads
          have hfew := armI_few I4.out h1 (by omega) (by omega)
          have G1 := Lib.hid g1
          have G3 := Lib.hid g3
          have T1 := Lib.hid t1
          have T2 := Lib.hid t2
          have T3 := Lib.hid t3
          have T4 := Lib.hid t4
          clear g1 g2 g3 g4 t1 t2 t3 t4
          go_wp2_with fail
          refine (off_any Z d st wr D4.out.din).mono ?_
          rintro e w5 ⟨rfl, rfl⟩
          rw [G1.out]
          go_wp2_with fail
          refine (writes_any Z d st wr D4.out.din).mono ?_
          rintro e w5 ⟨rfl, rfl⟩
          rw [G3.out]
          go_wp2_with fail
          refine (off_any Z d st wr D4.out.din).mono ?_
          rintro e w5 ⟨rfl, rfl⟩
          rw [G1.out]
          go_wp2_with fail
          refine (read_any Z d st 0 wr D4.out.din (by omega) (by omega) (by omega)).mono ?_
          rintro e w5 ⟨v5, rfl, ho5, hd5, ht5⟩
          rw [T1.out]
          rw [T2.out] at hd5
          have D5 := Lib.hid (D4.out.turn hd5 ht5)
          obtain ⟨a5, c5, hv5⟩ := ho5.shape
          subst hv5
          clear ho5 hd5 ht5 D4
          go_wp2_with fail
          refine (flush_any Z d st w5 D5.out.din).mono ?_
          rintro e w6 ⟨rfl, hd6, ht6⟩
          rw [if_pos G1.out]
          rw [if_pos G1.out] at hd6
          have D6 := Lib.hid (D5.out.turn hd6 ht6)
          clear D5 hd6 ht6
          go_wp2_with fail
          refine (on_any Z d st w6 D6.out.din).mono ?_
          rintro e w7 ⟨rfl, hd7, ht7⟩
          have D7 := Lib.hid (D6.out.turn hd7 ht7)
          clear D6 hd7 ht7
          go_wp2_with fail
          obtain ⟨w8, hr2, hu2, hb2⟩ := mk64 w7
          rw [hr2]
          obtain ⟨b8, hb8⟩ : ∃ b8, (w7).heap.size = b8 := ⟨_, rfl⟩
          rw [hb8] at hu2 ⊢
          have U8 := Lib.hid hu2
          have BU8 := Lib.hid hb2
          clear hr2 hu2 hb2

          have D8 := Lib.hid (D7.out.more BU8.out)
          have hz8 : ¬ Z b8 := fun h => by have := D7.out.din.1 b8 h; omega
          go_wp2_with fail
          refine (write_any Z d { st with off := false } 0 (some ⟨b8, 0, none⟩) 64 64 (List.replicate 64 0) w8 D8.out.din (U8.out.rd64 (by simp)) (fun x hx => by injection hx with hx; subst hx; exact hz8) (by omega) (by omega) hfew.1 hfew.2).mono ?_
          rintro e w9 ⟨rfl, Z9, hd9, ht9⟩
          rw [T3.out]
          have D9 := Lib.hid (D8.out.turn hd9 ht9)
          clear D8 hd9 ht9
          go_wp2_with fail
          refine (pending_any Z9 d _ w9 D9.out.din).mono ?_
          rintro e w10 ⟨rfl, rfl⟩
          rw [T4.out]
          go_wp2_with fail
          go_ret
          exact ⟨rfl, D9.out.below⟩
        · have dle : decide (n0 ≤ (k : Int)) = false := decide_eq_false hle
          obtain ⟨g1, g2, g3, g4⟩ := I4.out.lo (by omega)
          obtain rfl : c = (k : Int) := by rw [C4.out, if_pos (by omega)]
          have G1 := Lib.hid g1
          have G3 := Lib.hid g3
          clear g1 g2 g3 g4
          go_wp2_with fail
          refine (off_any Z d st wr D4.out.din).mono ?_
          rintro e w5 ⟨rfl, rfl⟩
          rw [G1.out]
          go_wp2_with fail
          refine (writes_any Z d st wr D4.out.din).mono ?_
          rintro e w5 ⟨rfl, rfl⟩
          rw [G3.out]
          go_wp2_with fail
          refine (off_any Z d st wr D4.out.din).mono ?_
          rintro e w5 ⟨rfl, rfl⟩
          rw [G1.out]
          go_wp2_with fail
          go_ret
          exact ⟨rfl, D4.out.below⟩

end Go.Proofs.Ytpgncmoagmkcmaa
