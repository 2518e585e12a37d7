/- disk: goes, bytes, Read. -/
import Derived.Test.YtpgncmoagmkcmaaDkB
namespace Go.Proofs.Ytpgncmoagmkcmaa
open Go.RowKit
theorem secT : Try.prog.underlying 33 = some (.slice 22) := Try.underlying33
theorem mkI : (Try.prog.info? 5).map (fun i => (i.zero, i.size, i.bytes)) = some (some (.int .u8 0), 1, 1) := by kernel_rfl
theorem mk_bytes (n : Nat) (hn : n ≤ 1000000) (w : World) : (Instr.makeSlice 22 (.int .i64 (n : Int)) (.int .i64 (n : Int))).run Try.prog w = .ok (.slice (some ⟨w.heap.size, 0, none⟩) n n) (w.alloc (.cells (List.replicate n (.int .u8 0)).toArray 5)) := by
  obtain ⟨i, hi, hz, hs, hb⟩ := info_parts mkI
  have hr := run_make (P := Try.prog) w 22 5 i (.int .u8 0) u8T hi hz .i64 .i64 n n (by omega) (Int.le_refl _) (by rw [hb]; omega) (by omega)
  rw [hr, hs, Int.toNat_natCast, Nat.mul_one]
  congr 4
  rw [show (Value.int .u8 0).cells = #[.int .u8 0] from rfl, ← toList_madeCells_one]
theorem zeros_own (n : Nat) (hn : n ≤ 1000000) (w : World) : Owns .u8 5 (w.alloc (.cells (List.replicate n (.int .u8 0)).toArray 5)) w.heap.size (.slice (some ⟨w.heap.size, 0, none⟩) n n) (List.replicate n 0) := by
  refine ⟨fun x hx => by rw [List.eq_of_mem_replicate hx]; rfl, .inr ?_⟩
  have := World.ownsRow_lit (base := w.heap.size) (e := 5) (size := 1) w (List.replicate n (.int .u8 0)).toArray n (Nat.le_refl _) (by unfold maxLen; omega) (by simp)
  simpa using this
theorem sec_at {w : World} {Z : Nat → Prop} {d kb mb : Nat} {pv kv : Value} {vals pvs : List Value} {st : Dk} (p : DkP w Z d kb mb pv kv vals pvs st) {s : Nat} (hs : s < st.kept.length) :
    ∃ v l, st.kept[s]? = some l ∧ SecV w (MutD d kb mb pv) Z st.size v l ∧ w.cell? ⟨kb, s, none⟩ = some v ∧ l.length = st.size := by
  have hl : st.kept[s]? = some st.kept[s] := List.getElem?_eq_getElem hs
  obtain ⟨v, hv, hsv⟩ := p.kvals.get hl
  refine ⟨v, st.kept[s], hl, hsv, ?_, p.ok.kept _ (List.getElem_mem hs)⟩
  rw [cell_of_row w _ _ _ _ _ p.krow]
  simpa using hv
set_option linter.unusedSimpArgs false in
set_option linter.unusedVariables false in
set_option maxRecDepth 100000 in
set_option maxHeartbeats 2000000 in
theorem bytes_any (Z : Nat → Prop) (d : Nat) (st : Dk) (s : Nat) (w : World) (h : DkIn w Z d st) (hs : s < st.kept.length) :
    Calls Try.prog 39 #[.pointer (some ⟨d, 0, none⟩), .int .i64 s] w (GivesBytes ((st.kept[s]?).getD []) w) := by
  obtain ⟨hz, kb, mb, pv, kv, vals, pvs, p⟩ := h
  obtain ⟨c0, c1, c2, c3, c4, c5, c6, c7, c8, cf⟩ := cellsD p.row
  obtain ⟨v, l, hl, hv, hc, hll⟩ := sec_at p hs
  have hsz := p.ok.size
  have hn := p.ok.n
  rw [hl, Option.getD_some]
  have hnil := fun (w : World) (a : Option Addr) (n c : Nat) => Lib.run_eql_slice_nil (P := Try.prog) w 22 5 a n c 0 0 Try.underlying22
  obtain ⟨n, hN⟩ : ∃ n, st.size = n := ⟨_, rfl⟩
  rw [hN] at hsz hll c3 hv
  have hmk := mk_bytes n (by omega)
  have hown := zeros_own n (by omega) w
  have HO := Lib.hid hown
  have hd1 : decide ((s : Int) < st.kept.length) = true := decide_eq_true (by omega)
  clear p hl hown
  rcases hv with ⟨rfl, rfl⟩ | ⟨b, o, n9, c9, rfl, hr, hn9, _, _⟩
  · go_enter Try.func39, Try.ntmps39
    go_wp2
    go_ret
    exact ⟨_, rfl, HO.out, (Below.refl _ _).alloc (Nat.le_refl _) _⟩
  · have h9 : n9 ≤ 1000000000 := by have := hr.len; omega
    have HR := Lib.hid hr
    clear hr
    go_enter Try.func39, Try.ntmps39
    go_wp2_with fail
    refine (clone_any _ _ _ _ _ HR.out h9).mono ?_
    rintro e w2 ⟨v2, rfl, ho2, hb2⟩
    have HO2 := Lib.hid ho2
    have HB2 := Lib.hid hb2
    obtain ⟨a2, k2, rfl⟩ := ho2.shapeN n hll
    clear ho2 hb2
    go_wp2_with fail
    go_ret
    exact ⟨_, rfl, HO2.out, HB2.out⟩
set_option linter.unusedSimpArgs false in
set_option linter.unusedVariables false in
set_option maxRecDepth 100000 in
set_option maxHeartbeats 2000000 in
theorem goes_any (Z : Nat → Prop) (d kb mb : Nat) (pv kv : Value) (vals pvs : List Value) (st : Dk) (w : World) (p : DkP w Z d kb mb pv kv vals pvs st) (hz : ∀ k, Z k → k < w.heap.size) :
    Calls Try.prog 35 #[.pointer (some ⟨d, 0, none⟩)] w fun e w' => e = .returned (.bool (decide (st.armed = 1))) ∧ DkP w' Z d kb mb pv kv vals pvs { st with armed := if st.armed = 0 then 0 else st.armed - 1 } ∧ Tnd Z Z w w' ∧ (∀ k, Z k → k < w'.heap.size) := by
  obtain ⟨c0, c1, c2, c3, c4, c5, c6, c7, c8, cf⟩ := cellsD p.row
  have P := Lib.hid p
  have ha := p.ok.armed
  have hd : d < w.heap.size := hz d (p.z d (.inl rfl))
  clear p
  by_cases h0 : st.armed = 0
  · have e1 : decide (st.armed = 1) = false := decide_eq_false (by omega)
    have e2 : ({ st with armed := if st.armed = 0 then 0 else st.armed - 1 } : Dk) = st := by rw [if_pos h0, ← h0]
    rw [e1, e2]
    rw [h0] at c1
    go_enter Try.func35, Try.ntmps35
    go_wp2
    go_ret
    exact ⟨rfl, P.out, Tnd.refl _ _, hz⟩
  · have d0 : decide (st.armed = 0) = false := decide_eq_false h0
    have e1 : decide (st.armed - 1 = 0) = decide (st.armed = 1) := by
      by_cases h : st.armed = 1
      · rw [h]; decide
      · rw [decide_eq_false h, decide_eq_false (by omega)]
    rw [if_neg h0]
    have w1 : IntKind.i64.wrap (st.armed - 1) = st.armed - 1 := by rw [IntKind.wrap_i64]; omega
    go_enter Try.func35, Try.ntmps35
    go_wp2
    go_ret
    refine ⟨by rw [← e1]; rfl, P.out.re (fun x _ hne => heap_setCell_other w ⟨d, 1, none⟩ x _ hne) ?_ rfl rfl rfl rfl ⟨P.out.ok.size, P.out.ok.n, P.out.ok.kept, P.out.ok.pend, ⟨by show 0 ≤ st.armed - 1; omega, by show st.armed - 1 ≤ 9223372036854775807; omega⟩, P.out.ok.few, P.out.ok.writes, P.out.ok.reads⟩, ⟨rfl, rfl, rfl, by simp, fun x _ hzx => heap_setCell_other w ⟨d, 1, none⟩ x _ (fun e => hzx (by rw [show x = d from e]; exact P.out.z d (.inl rfl))), fun x h => .inl h⟩, fun x hx => by simpa using hz x hx⟩
    rw [heap_setCell_same w d 1 _ _ _ P.out.row]
    simp
set_option linter.unusedSimpArgs false in
set_option linter.unusedVariables false in
set_option maxRecDepth 100000 in
set_option maxHeartbeats 2000000 in
theorem read_any (Z : Nat → Prop) (d : Nat) (st : Dk) (s : Int) (w : World) (h : DkIn w Z d st) (hs1 : -9223372036854775808 ≤ s) (hs2 : s ≤ 9223372036854775807) (hrd : st.reads + 1 ≤ 4611686018427387904) :
    Calls Try.prog 13 #[.pointer (some ⟨d, 0, none⟩), .int .i64 s] w fun e w' => ∃ v, e = .returned (.tuple #[v, .int .i64 (rdE st s)]) ∧ Owns .u8 5 w' w.heap.size v (rdV st s) ∧ DkIn w' Z d (rdS st s) ∧ Tnd Z Z w w' := by
  have H := Lib.hid h
  cases ho : st.off with
  | true =>
    have e1 : rdE st s = 8 := by unfold rdE; rw [ho]; rfl
    have e2 : rdS st s = st := by unfold rdS; rw [e1, if_neg (by decide)]
    have e3 : rdV st s = [] := by unfold rdV; rw [e1, if_neg (by decide)]
    rw [e1, e2, e3]
    have HO := Lib.hid ho
    clear ho h e1 e2 e3
    go_enter Try.func13, Try.ntmps13
    go_wp2_with fail
    refine (off_any Z d st w H.out).mono ?_
    rintro e w1 ⟨rfl, rfl⟩
    rw [HO.out]
    go_wp2_with fail
    go_ret2
    exact ⟨_, rfl, Owns.nil _ _ _ _, H.out, Tnd.refl _ _⟩
  | false =>
    cases hi : inS st s with
    | false =>
      have e1 : rdE st s = 1 := by unfold rdE; rw [ho, hi]; rfl
      have e2 : rdS st s = st := by unfold rdS; rw [e1, if_neg (by decide)]
      have e3 : rdV st s = [] := by unfold rdV; rw [e1, if_neg (by decide)]
      rw [e1, e2, e3]
      have HO := Lib.hid ho
      have HI := Lib.hid hi
      clear ho h e1 e2 e3 hi
      go_enter Try.func13, Try.ntmps13
      go_wp2_with fail
      refine (off_any Z d st w H.out).mono ?_
      rintro e w1 ⟨rfl, rfl⟩
      rw [HO.out]
      go_wp2_with fail
      refine (there_any Z d st s w H.out).mono ?_
      rintro e w2 ⟨rfl, rfl⟩
      rw [HI.out]
      go_wp2_with fail
      go_ret2
      exact ⟨_, rfl, Owns.nil _ _ _ _, H.out, Tnd.refl _ _⟩
    | true =>
      have e1 : rdE st s = 0 := by unfold rdE; rw [ho, hi]; rfl
      have e2 : rdS st s = { st with reads := st.reads + 1 } := by unfold rdS; rw [e1, if_pos rfl]
      have e3 : rdV st s = secB st s.toNat := by unfold rdV; rw [e1, if_pos rfl]
      rw [e1, e2, e3]
      have HO := Lib.hid ho
      have HI := Lib.hid hi
      obtain ⟨hz, kb, mb, pv, kv, vals, pvs, p⟩ := h
      obtain ⟨c0, c1, c2, c3, c4, c5, c6, c7, c8, cf⟩ := cellsD p.row
      have hbd : 0 ≤ s ∧ s < st.kept.length := by
        unfold inS at hi
        simpa using hi
      obtain ⟨sn, rfl⟩ := Int.eq_ofNat_of_zero_le hbd.1
      have hsn : sn < st.kept.length := by omega
      have hr0 := p.ok.reads
      have wr1 : IntKind.i64.wrap (st.reads + 1) = st.reads + 1 := by rw [IntKind.wrap_i64]; omega
      have P := Lib.hid p
      have hd : d < w.heap.size := hz d (p.z d (.inl rfl))
      have hne := p.ne
      have hwf : (Lit.int .i64 (sn : Int)).wf = true := by
        have := p.ok.n
        simp [Lit.wf, IntKind.min, IntKind.max, IntKind.signed, IntKind.bits]
        omega
      have hP2 : DkP (w.setCell ⟨d, 8, none⟩ (.int .i64 (st.reads + 1))) Z d kb mb pv kv vals pvs { st with reads := st.reads + 1 } := by
        refine p.re (fun x _ hne => heap_setCell_other w ⟨d, 8, none⟩ x _ hne) ?_ rfl rfl rfl rfl ⟨p.ok.size, p.ok.n, p.ok.kept, p.ok.pend, p.ok.armed, p.ok.few, p.ok.writes, ⟨by show 0 ≤ st.reads + 1; omega, hrd⟩⟩
        rw [heap_setCell_same w d 8 _ _ _ p.row]
        simp
      have hlk := map_look hP2.map (sn : Int) hwf
      have HP2 := Lib.hid hP2
      have hT2 : Hid (Tnd Z Z w (w.setCell ⟨d, 8, none⟩ (.int .i64 (st.reads + 1)))) := ⟨rfl, rfl, rfl, by simp, fun x _ hzx => heap_setCell_other w ⟨d, 8, none⟩ x _ (fun e => hzx (by rw [show x = d from e]; exact P.out.z d (.inl rfl))), fun x h => .inl h⟩
      clear ho hi e1 e2 e3 hP2 hwf
      cases hlo : lastOf st.pend (sn : Int) with
      | none =>
        have hE : secB st (Int.toNat sn) = (st.kept[sn]?).getD [] := by
          unfold secB
          rw [show (((Int.toNat sn : Nat)) : Int) = sn by omega, hlo]
          rfl
        rw [hE]
        replace hlk : (Instr.lookup 35 (.map (some mb)) (.agg #[.int .i64 (sn : Int)]) true).run Try.prog (w.setCell ⟨d, 8, none⟩ (.int .i64 (st.reads + 1))) = .ok (.tuple #[.int .i64 0, .bool false]) (w.setCell ⟨d, 8, none⟩ (.int .i64 (st.reads + 1))) := by
          rw [hlk]
          simp only [hlo]
          rfl
        clear hlo hE p
        go_enter Try.func13, Try.ntmps13
        go_wp2_with fail
        refine (off_any Z d st w H.out).mono ?_
        rintro e w1 ⟨rfl, rfl⟩
        rw [HO.out]
        go_wp2_with fail
        refine (there_any Z d st (sn : Int) w H.out).mono ?_
        rintro e w2 ⟨rfl, rfl⟩
        rw [HI.out]
        go_wp2_with fail
        refine (bytes_any Z d { st with reads := st.reads + 1 } sn (w.setCell ⟨d, 8, none⟩ (.int .i64 (st.reads + 1))) ⟨fun x hx => by simpa using hz x hx, kb, mb, pv, kv, vals, pvs, HP2.out⟩ hsn).mono ?_
        rintro e w2 ⟨v2, rfl, ho2, hb2⟩
        obtain ⟨a2, n2, k2, hv2⟩ : ∃ a n k, v2 = .slice a n k := by obtain ⟨a, k, h⟩ := ho2.shape; exact ⟨a, _, k, h⟩
        have HO2 := Lib.hid ho2
        have HB2 := Lib.hid hb2
        subst hv2
        clear ho2 hb2
        go_wp2_with fail
        go_ret2
        have hsz8 : (w.setCell ⟨d, 8, none⟩ (.int .i64 (st.reads + 1))).heap.size = w.heap.size := by simp
        refine ⟨_, rfl, by have := HO2.out; rw [hsz8] at this; exact this, DkIn.below ⟨fun x hx => by simpa using hz x hx, kb, mb, pv, kv, vals, pvs, HP2.out⟩ HB2.out, hT2.out.trans ⟨HB2.out.os, HB2.out.tape, HB2.out.output, HB2.out.size, fun x hx _ => HB2.out.block x hx, fun x h => .inl h⟩⟩
      | some i =>
        obtain ⟨k, rfl, hk, b, hpk⟩ := lastOf_some hlo
        have hE : secB st (Int.toNat sn) = b := by
          unfold secB
          rw [show (((Int.toNat sn : Nat)) : Int) = sn by omega, hlo]
          show ((st.pend[Int.toNat k]?).map (·.2)).getD [] = b
          rw [Int.toNat_natCast, hpk]
          rfl
        rw [hE]
        replace hlk : (Instr.lookup 35 (.map (some mb)) (.agg #[.int .i64 (sn : Int)]) true).run Try.prog (w.setCell ⟨d, 8, none⟩ (.int .i64 (st.reads + 1))) = .ok (.tuple #[.int .i64 (k : Int), .bool true]) (w.setCell ⟨d, 8, none⟩ (.int .i64 (st.reads + 1))) := by
          rw [hlk]
          simp only [hlo]
          rfl
        obtain ⟨v, hvk, hv⟩ := p.pvals.get hpk
        obtain ⟨g, ⟨cg, hpv⟩, _, hgc2⟩ := pend_cells p.prow hvk hpk hk
        obtain ⟨b9, o9, n9, c9, rfl, hr9, hn9, hm9, hz9⟩ := hv
        have hgd : g ≠ d := (p.rm g (by rw [hpv]; rfl)).1
        rw [show 2 * k + 1 = k * 2 + 1 by omega] at hgc2
        rw [hpv] at c5
        have hpok := (p.ok.pend _ (List.mem_of_getElem? hpk)).1
        have hszb := p.ok.size
        have h9 : n9 ≤ 1000000000 := by
          have hl1 : b.length = st.size := hpok
          have hl2 : b.length = n9 := hr9.len
          omega
        have HR9 := Lib.hid (RdAt.at (w' := w.setCell ⟨d, 8, none⟩ (.int .i64 (st.reads + 1))) hr9 (heap_setCell_other w ⟨d, 8, none⟩ b9 _ (fun e => hm9 (.inl e))))
        have HPV := Lib.hid hpv
        have hdk : decide ((k : Int) < st.pend.length) = true := decide_eq_true (by omega)
        clear hlo hE p hvk hpk hr9 hm9 hz9 hpv hpok hszb
        go_enter Try.func13, Try.ntmps13
        go_wp2_with fail
        refine (off_any Z d st w H.out).mono ?_
        rintro e w1 ⟨rfl, rfl⟩
        rw [HO.out]
        go_wp2_with fail
        refine (there_any Z d st (sn : Int) w H.out).mono ?_
        rintro e w2 ⟨rfl, rfl⟩
        rw [HI.out]
        go_wp2_with fail
        refine (clone_any _ _ _ _ _ HR9.out h9).mono ?_
        rintro e w2 ⟨v2, rfl, ho2, hb2⟩
        obtain ⟨a2, n2, k2, hv2⟩ : ∃ a n k, v2 = .slice a n k := by obtain ⟨a, k, h⟩ := ho2.shape; exact ⟨a, _, k, h⟩
        have HO2 := Lib.hid ho2
        have HB2 := Lib.hid hb2
        subst hv2
        clear ho2 hb2
        go_wp2_with fail
        go_ret2
        have hsz8 : (w.setCell ⟨d, 8, none⟩ (.int .i64 (st.reads + 1))).heap.size = w.heap.size := by simp
        refine ⟨_, rfl, by have := HO2.out; rw [hsz8] at this; exact this, DkIn.below ⟨fun x hx => by simpa using hz x hx, kb, mb, pv, kv, vals, pvs, HP2.out⟩ HB2.out, hT2.out.trans ⟨HB2.out.os, HB2.out.tape, HB2.out.output, HB2.out.size, fun x hx _ => HB2.out.block x hx, fun x h => .inl h⟩⟩
end Go.Proofs.Ytpgncmoagmkcmaa
