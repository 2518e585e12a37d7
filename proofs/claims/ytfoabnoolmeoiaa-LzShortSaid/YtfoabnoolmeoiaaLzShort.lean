/- The walk of almanaclaw4.LzShort. -/
import Derived.Test.YtfoabnoolmeoiaaLzBack
import Derived.Test.YtfoabnoolmeoiaaOwnCell
namespace Go.Proofs.Ytfoabnoolmeoiaa
open Go.RowKit
set_option maxRecDepth 100000 in
theorem mkI4 : (Try.prog.info? 5).map (fun i => (i.zero, i.size, i.bytes)) = some (some (.int .u8 0), 1, 1) := by kernel_rfl
set_option maxRecDepth 100000 in
theorem mk_bytes4 (n : Nat) (hn : n ≤ 1000000) (w : World) : (Instr.makeSlice 22 (.int .i64 (n : Int)) (.int .i64 (n : Int))).run Try.prog w = .ok (.slice (some ⟨w.heap.size, 0, none⟩) n n) (w.alloc (.cells (List.replicate n (.int .u8 0)).toArray 5)) := by
  obtain ⟨i, hi, hz, hs, hb⟩ := info_parts mkI4
  have hr := run_make (P := Try.prog) w 22 5 i (.int .u8 0) u8T hi hz .i64 .i64 n n (by omega) (Int.le_refl _) (by rw [hb]; omega) (by omega)
  rw [hr, hs, Int.toNat_natCast, Nat.mul_one]
  congr 4
  rw [show (Value.int .u8 0).cells = #[.int .u8 0] from rfl, ← toList_madeCells_one]
theorem zeros_own4 (n : Nat) (hn : n ≤ 1000000) (w : World) : Owns .u8 5 (w.alloc (.cells (List.replicate n (.int .u8 0)).toArray 5)) w.heap.size (.slice (some ⟨w.heap.size, 0, none⟩) n n) (List.replicate n 0) := by
  refine ⟨fun x hx => by rw [List.eq_of_mem_replicate hx]; rfl, .inr ?_⟩
  have := World.ownsRow_lit (base := w.heap.size) (e := 5) (size := 1) w (List.replicate n (.int .u8 0)).toArray n (Nat.le_refl _) (by unfold maxLen; omega) (by simp)
  simpa using this
set_option maxRecDepth 100000 in
theorem mkN4 (n : Nat) (hn : n ≤ 1000000) (w : World) : ∃ w', (Instr.makeSlice 22 (.int .i64 (n : Int)) (.int .i64 (n : Int))).run Try.prog w = .ok (.slice (some ⟨w.heap.size, 0, none⟩) n n) w' ∧ Owns .u8 5 w' w.heap.size (.slice (some ⟨w.heap.size, 0, none⟩) n n) (List.replicate n 0) ∧ Below w.heap.size w w' :=
  ⟨_, mk_bytes4 n hn w, zeros_own4 n hn w, (Below.refl _ _).alloc (Nat.le_refl _) _⟩
theorem half_two (row : List Int) (h : 0 < row.length) : halfOk (row ++ row) := by
  have hl : (row ++ row).length = row.length + row.length := List.length_append
  have h2 : (row ++ row).length / 2 = row.length := by omega
  refine ⟨by omega, by omega, ?_⟩
  rw [h2, List.take_left' rfl, List.drop_left' rfl]
/-- The last part: the row twice. -/
structure TwoOut (m : Nat) (two p : List Int) : Prop where
  le : p.length ≤ m + 8
  o : outT (allT (two.length : Int) p) = two
  e : (allT (two.length : Int) p).e = 0
theorem two_out {row p : List Int} (h : PkOut (row ++ row) p) (h1 : 32 ≤ row.length) (h2 : row.length ≤ 2000) : TwoOut row.length (row ++ row) p := by
  have hl : (row ++ row).length = row.length + row.length := List.length_append
  obtain ⟨a, b⟩ := pk_outT h rfl
  refine ⟨?_, a, b⟩
  have := h.half (half_two row (by omega)) (by omega) (by omega)
  omega
set_option linter.unusedSimpArgs false in
set_option linter.unusedVariables false in
set_option maxRecDepth 100000 in
set_option maxHeartbeats 4000000 in
theorem lzShort_walk (cb n : Int) (a : Option Addr) (m c : Nat) (row : List Int) (w : World) (hcb : (Lit.int .u8 cb).wf = true) (hn : (Lit.int .i64 n).wf = true) (h : RdAt .u8 w a m c row) :
    Calls Try.prog 7 #[.int .u8 cb, .int .i64 n, .slice a m c] w fun e w' => e = .returned (.bool true) ∧ Below w.heap.size w w' := by
  have H := Lib.hid h
  have HM := Lib.hid h.len
  clear h
  by_cases q1 : n < 8
  · have hd1 : decide (n < 8) = true := decide_eq_true q1
    go_enter Try.func7, Try.ntmps7
    go_wp2_with (go_at_call 8; refine (known4 _).mono ?_; rintro e w1 ⟨rfl, hb⟩)
    go_ret
    exact ⟨rfl, hb⟩
  have hd1 : decide (n < 8) = false := decide_eq_false q1
  by_cases q2 : 65536 < n
  · have hd2 : decide (65536 < n) = true := decide_eq_true q2
    go_enter Try.func7, Try.ntmps7
    go_wp2_with (go_at_call 8; refine (known4 _).mono ?_; rintro e w1 ⟨rfl, hb⟩)
    go_ret
    exact ⟨rfl, hb⟩
  have hd2 : decide (65536 < n) = false := decide_eq_false q2
  by_cases q3 : 2000 < m
  · have hd3 : decide ((2000 : Int) < m) = true := decide_eq_true (by omega)
    go_enter Try.func7, Try.ntmps7
    go_wp2_with (go_at_call 8; refine (known4 _).mono ?_; rintro e w1 ⟨rfl, hb⟩)
    go_ret
    exact ⟨rfl, hb⟩
  have hd3 : decide ((2000 : Int) < m) = false := decide_eq_false (by omega)
  obtain ⟨N, rfl⟩ := Int.eq_ofNat_of_zero_le (show 0 ≤ n by omega)
  clear hn
  go_enter Try.func7, Try.ntmps7
  go_wp2_with (go_at_call 8; refine (known4 _).mono ?_; rintro e w1 ⟨rfl, hb⟩)
  obtain ⟨w2, hmk, hz, hb2⟩ := mkN4 N (by omega) w1
  rw [hmk]
  have hb1 := Below.call hb hb2
  obtain ⟨B, hB⟩ : ∃ B, w1.heap.size = B := ⟨_, rfl⟩

  rw [hB] at hz
  rw [hB]
  have hwB : w.heap.size ≤ B := by rw [← hB]; exact hb.size
  clear hmk hB hb hb2
  go_wp2_with fail
  go_loopw [8] (fun i wr => ∃ (k : Nat) (l : List Int), k ≤ N ∧ i = .int .i64 k ∧ Hid (Owns .u8 5 wr B (.slice (some ⟨B, 0, none⟩) N N) l ∧ l.length = N ∧ ∀ j, j < k → nth l j = cb) ∧ Hid (Below w.heap.size w wr)) (fun i _ => N - (intOf i).toNat)
  case atStart => exact ⟨0, _, Nat.zero_le _, rfl, ⟨hz, by simp, fun j hj => by omega⟩, hb1⟩
  case round =>
    obtain ⟨w3, rfl⟩ : ∃ w3 : World, w3 = wr := ⟨_, rfl⟩
    obtain ⟨k, l, hk, rfl, ho, hb3⟩ := hrel
    clear hz hb1
    by_cases p : k < N
    · have dk : decide ((k : Int) < (N : Int)) = true := decide_eq_true (by omega)
      obtain ⟨g, hg, _, _, hc, hf⟩ := ho.out.1.cellAt k (by rw [ho.out.2.1]; exact p)
      injection hg with hg
      injection hg with hg
      subst hg
      have hs := ho.out.1.stored k cb hcb
      have HS : Hid (Owns .u8 5 (w3.setCell ⟨B, k, none⟩ (.int .u8 cb)) B (.slice (some ⟨B, 0, none⟩) N N) (l.set k cb) ∧ (l.set k cb).length = N ∧ ∀ j, j < k + 1 → nth (l.set k cb) j = cb) := by
        refine ⟨hs, by rw [List.length_set]; exact ho.out.2.1, fun j hj => ?_⟩
        have hlen := ho.out.2.1
        by_cases hjk : j = k
        · subst hjk
          unfold nth
          simp [List.getD, List.getElem?_set, hlen, p]
        · have := ho.out.2.2 j (by omega)
          unfold nth at this ⊢
          rw [← this]
          simp only [List.getD, List.getElem?_set_ne (fun e : k = j => hjk e.symm)]
      clear hs
      go_wp2
      go_roundw
      case rel => exact ⟨k + 1, _, by omega, by go_num, HS, hb3.out.setCell (p := ⟨B, k, none⟩) hwB _⟩
      case measure => simp [intOf] <;> omega
    · obtain rfl : k = N := by omega
      have dk : decide ((k : Int) < (k : Int)) = false := decide_eq_false (by omega)
      have hM : max (k : Int) 0 = k := by omega
      have hrd := Lib.hid ho.out.1.rd
      have HL := Lib.hid ho.out.2.1
      have HEQ : Hid (EqB l) := by
        show EqB l
        intro i hi
        rw [ho.out.2.1] at hi
        rw [ho.out.2.2 i hi, ho.out.2.2 0 (by omega)]
      clear ho
      go_wp2_with fail
      refine (pack_any _ _ _ l _ hrd.out (by omega)).mono ?_
      rintro e w4 ⟨⟨r, p4, rfl, op, hp⟩, hb4⟩
      have HR4 := Lib.hid (hrd.out.below hb4)
      have hbb := Below.call hb3.out hb4
      obtain ⟨lp, hlp⟩ : ∃ q, p4.length = q := ⟨_, rfl⟩
      obtain ⟨ap, cp, rfl⟩ := op.shapeN lp hlp
      obtain ⟨hT, hE⟩ := pk_outT (M := (k : Int)) hp.out (by rw [HL.out])
      have HT := Lib.hid hT
      have HE := Lib.hid hE
      have dle : decide ((16 : Int) < (lp : Int)) = false := decide_eq_false (by have := hp.out.eq HEQ.out (by rw [HL.out]; omega); omega)
      have hrp := Lib.hid op.rd
      have HB := Lib.hid hbb
      clear op hT hE hlp hb4 hbb hrd hp
      go_wp2_with fail
      refine (unpack_any _ _ _ _ _ (k : Int) _ hrp.out hM (by omega)).mono ?_
      rintro e w5 ⟨⟨v5, hee, o5⟩, hb5⟩
      rw [HE.out] at hee
      subst hee
      rw [HT.out] at o5
      obtain ⟨a5, c5, rfl⟩ := o5.shapeN k HL.out
      have HB5 := Lib.hid (Below.call HB.out hb5)
      have k5 := conv_rd u8T s8 su o5.rd
      have k6 := conv_rd u8T s8 su (HR4.out.below hb5)
      have HRW := Lib.hid (H.out.below HB5.out)
      clear hb5 o5 HR4
      by_cases q4 : m < 32
      · have hd4 : decide ((m : Int) < 32) = true := decide_eq_true (by omega)
        go_wp2_with fail
        go_ret
        exact ⟨rfl, HB5.out⟩
      · have hd4 : decide ((m : Int) < 32) = false := decide_eq_false (by omega)
        go_wp2_with (first | (at_builtin; refine app_all u8T u8I (by decide) rfl (.tmp 62) (.tmp 63) rfl _ w5.heap.size _ [] rfl (Owns.empty _ _ _ _ _ _) _ _ _ row rfl (HRW.out.alloc _) (by simp; omega) (by simp) ?_; intro x6 w6 ho6 hg6; rw [List.nil_append] at ho6; have hb6 := hg6.fromEmpty; clear hg6; obtain ⟨a6, c6, rfl⟩ := ho6.shapeN m HM.out) | (at_builtin; refine app_all u8T u8I (by decide) rfl (.tmp 64) (.tmp 65) rfl _ w5.heap.size _ row rfl ho6 _ _ _ row rfl (HRW.out.below hb6) (by rw [HM.out]; omega) hb6.size ?_; intro x7 w7 ho7 hg7; obtain ⟨a7, c7, rfl⟩ := ho7.shapeN (m + m) (by rw [List.length_append, HM.out])))
        have hb7 : Below w5.heap.size w5 w7 := hb6.trans (hg7.below hb6.size (fun g hg => (ho6.at_base g hg).1))
        have HR7 := Lib.hid ho7.rd
        have HB7 := Lib.hid (Below.call HB5.out hb7)
        clear ho6 hg7 hb6 hb7 ho7 k5 k6
        have hM2 : max ((m : Int) + (m : Int)) 0 = (m : Int) + (m : Int) := by omega
        refine (pack_any _ _ _ (row ++ row) _ HR7.out (by omega)).mono ?_
        rintro e w8 ⟨⟨r8, p8, rfl, op, hp⟩, hb8⟩
        have HTW := Lib.hid (two_out hp.out (by rw [HM.out]; omega) (by rw [HM.out]; omega))
        have hll : ((row ++ row).length : Int) = (m : Int) + (m : Int) := by rw [List.length_append, HM.out]; omega
        obtain ⟨lp8, hlp8⟩ : ∃ q, p8.length = q := ⟨_, rfl⟩
        obtain ⟨ap8, cp8, rfl⟩ := op.shapeN lp8 hlp8
        have dle8 : decide ((lp8 : Int) ≤ (m : Int) + 8) = true := decide_eq_true (by have := HTW.out.le; rw [HM.out] at this; omega)
        have HT8 : Hid (outT (allT ((m : Int) + (m : Int)) p8) = row ++ row) := by show _ = _; rw [← hll]; exact HTW.out.o
        have HE8 : Hid ((allT ((m : Int) + (m : Int)) p8).e = 0) := by show _ = _; rw [← hll]; exact HTW.out.e
        have HR8 := Lib.hid (HR7.out.below hb8)
        have HB8 := Lib.hid (Below.call HB7.out hb8)
        have hrp8 := Lib.hid op.rd
        clear op hlp8 hb8 hp hll
        go_wp2_with fail
        refine (unpack_any _ _ _ _ _ ((m : Int) + (m : Int)) _ hrp8.out hM2 (by omega)).mono ?_
        rintro e w9 ⟨⟨v9, hee, o9⟩, hb9⟩
        rw [HE8.out] at hee
        subst hee
        rw [HT8.out] at o9
        obtain ⟨a9, c9, rfl⟩ := o9.shapeN (m + m) (by rw [List.length_append, HM.out])
        have k7 := conv_rd u8T s8 su o9.rd
        have k8 := conv_rd u8T s8 su (HR8.out.below hb9)
        have HB9 := Lib.hid (Below.call HB8.out hb9)
        clear hb9 o9
        go_wp2_with fail
        go_ret
        exact ⟨rfl, HB9.out⟩
end Go.Proofs.Ytfoabnoolmeoiaa
