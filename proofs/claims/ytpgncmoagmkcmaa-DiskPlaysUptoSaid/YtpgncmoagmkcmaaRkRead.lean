/- disk: the reference's Read. -/
import Derived.Test.YtpgncmoagmkcmaaRkNar
namespace Go.Proofs.Ytpgncmoagmkcmaa
open Go.RowKit
theorem lastOf_take {p : List (Int × List Int)} {k : Nat} {t : Int} {b : List Int} (h : p[k]? = some (t, b)) (s : Int) : lastOf (p.take (k + 1)) s = if s = t then some (k : Int) else lastOf (p.take k) s := by
  have hk := (List.getElem?_eq_some_iff.1 h).1
  rw [List.take_add_one, h, Option.toList_some, lastOf_snoc, List.length_take, Nat.min_eq_left (by omega)]
set_option linter.unusedSimpArgs false in
set_option linter.unusedVariables false in
set_option maxRecDepth 100000 in
set_option maxHeartbeats 4000000 in
theorem rread_all (Z : Nat → Prop) (r : Nat) (st : Dk) (s : Int) (w : World) (h : RkIn w Z r st) (hs1 : -9223372036854775808 ≤ s) (hs2 : s ≤ 9223372036854775807) (hrd : st.reads + 1 ≤ 4611686018427387904) :
    Calls Try.prog 42 #[.pointer (some ⟨r, 0, none⟩), .int .i64 s] w fun e w' => ∃ a n c, e = .returned (.tuple #[.slice a n c, .int .i64 (rdE st s)]) ∧ RdAt .u8 w' a n c (rdV st s) ∧ RkIn w' Z r (rdS st s) ∧ Tnd Z Z w w' := by
  have H := Lib.hid h
  obtain ⟨hz, bb, lv, kv, pvs, p⟩ := h
  obtain ⟨c0, c1, c2, c3, c4, c5, c6, c7, c8, cf⟩ := cellsD p.row
  obtain ⟨n, hn⟩ : ∃ n, st.pend.length = n := ⟨_, rfl⟩
  have HN := Lib.hid hn
  obtain ⟨pa, pc, hpv⟩ := owns_shape p.prow
  rw [hn] at hpv
  subst hpv
  have hfew := p.ok.few
  rw [hn] at hfew
  have P := Lib.hid p
  clear p hn
  cases ho : st.off with
  | true =>
    have e1 : rdE st s = 8 := by unfold rdE; rw [ho]; rfl
    have e2 : rdS st s = st := by unfold rdS; rw [e1, if_neg (by decide)]
    have e3 : rdV st s = [] := by unfold rdV; rw [e1, if_neg (by decide)]
    rw [e1, e2, e3]
    rw [ho] at c4
    clear ho e1 e2 e3
    go_enter Try.func42, Try.ntmps42
    go_wp2_with fail
    go_ret2
    exact ⟨_, _, _, rfl, RdAt.nil _ _, H.out, Tnd.refl _ _⟩
  | false =>
  cases hi : inS st s with
  | false =>
    have e1 : rdE st s = 1 := by unfold rdE; rw [ho, hi]; rfl
    have e2 : rdS st s = st := by unfold rdS; rw [e1, if_neg (by decide)]
    have e3 : rdV st s = [] := by unfold rdV; rw [e1, if_neg (by decide)]
    rw [e1, e2, e3]
    rw [ho] at c4
    by_cases h0 : s < 0
    · have d0 : decide (s < 0) = true := decide_eq_true h0
      clear ho e1 e2 e3 hi
      go_enter Try.func42, Try.ntmps42
      go_wp2_with fail
      go_ret2
      exact ⟨_, _, _, rfl, RdAt.nil _ _, H.out, Tnd.refl _ _⟩
    · have d0 : decide (s < 0) = false := decide_eq_false h0
      have d1 : decide ((st.kept.length : Int) ≤ s) = true := decide_eq_true (by
        unfold inS at hi
        simp only [Bool.and_eq_false_iff, decide_eq_false_iff_not] at hi
        omega)
      clear ho e1 e2 e3 hi
      go_enter Try.func42, Try.ntmps42
      go_wp2_with fail
      go_ret2
      exact ⟨_, _, _, rfl, RdAt.nil _ _, H.out, Tnd.refl _ _⟩
  | true =>
  have e1 : rdE st s = 0 := by unfold rdE; rw [ho, hi]; rfl
  have e2 : rdS st s = { st with reads := st.reads + 1 } := by unfold rdS; rw [if_pos e1]
  obtain ⟨k0, rfl⟩ : ∃ k0 : Nat, s = k0 := by
    unfold inS at hi
    simp only [Bool.and_eq_true, decide_eq_true_eq] at hi
    exact Int.eq_ofNat_of_zero_le hi.1
  have hk0 : k0 < st.kept.length := by
    unfold inS at hi
    simp only [Bool.and_eq_true, decide_eq_true_eq] at hi
    omega
  have e3 : rdV st k0 = secB st k0 := by unfold rdV; rw [if_pos e1, Int.toNat_natCast]
  rw [e1, e2, e3]
  rw [ho] at c4
  have hrds := P.out.ok.reads
  have wr1 : IntKind.i64.wrap (st.reads + 1) = st.reads + 1 := by rw [IntKind.wrap_i64]; omega
  have d0 : decide ((k0 : Int) < 0) = false := decide_eq_false (by omega)
  have d1 : decide ((st.kept.length : Int) ≤ k0) = false := decide_eq_false (by omega)
  have hZr := hz r (P.out.z r (.inl rfl))
  have hp1 : RkP (w.setCell ⟨r, 8, none⟩ (.int .i64 (st.reads + 1))) Z r bb (.slice pa n pc) kv pvs { st with reads := st.reads + 1 } :=
    P.out.re (fun x _ hne => heap_setCell_other w ⟨r, 8, none⟩ x _ hne) (by rw [heap_setCell_same w r 8 _ _ _ P.out.row]; simp) rfl rfl rfl rfl ⟨P.out.ok.size, P.out.ok.n, P.out.ok.kept, P.out.ok.pend, P.out.ok.armed, P.out.ok.few, P.out.ok.writes, by show 0 ≤ st.reads + 1 ∧ st.reads + 1 ≤ _; omega⟩
  have ht1 : Tnd Z Z w (w.setCell ⟨r, 8, none⟩ (.int .i64 (st.reads + 1))) := ⟨rfl, rfl, rfl, by simp, fun x hx hzx => heap_setCell_other w ⟨r, 8, none⟩ x _ (fun e => hzx (by rw [e]; exact P.out.z r (.inl rfl))), fun x h => .inl h⟩
  have hz1 : ∀ x, Z x → x < (w.setCell ⟨r, 8, none⟩ (.int .i64 (st.reads + 1))).heap.size := fun x hx => by simpa using hz x hx
  obtain ⟨w1, hw1⟩ : ∃ w1, w.setCell ⟨r, 8, none⟩ (.int .i64 (st.reads + 1)) = w1 := ⟨_, rfl⟩
  rw [hw1] at hp1 ht1 hz1
  have HW1 := Lib.hid hw1
  have P1 := Lib.hid hp1
  have T1 := Lib.hid ht1
  have Z1 := Lib.hid hz1
  have HK0 := Lib.hid hk0
  have wr2 : IntKind.i64.wrap ((n : Int) - 1) = (n : Int) - 1 := by rw [IntKind.wrap_i64]; omega
  obtain ⟨y0, y1, y2, y3, y4, y5, y6, y7, y8, yf⟩ := cellsD hp1.row
  have y3' := Lib.hid y3
  have y1' := Lib.hid y1
  have y2' := Lib.hid y2
  have d2 : decide (st.kept.length ≤ k0) = false := decide_eq_false (by omega)
  clear hw1 hp1 ht1 hz1 ho hi e1 e2 e3 hrds y0 y1 y2 y3 y4 y5 y6 y7 y8
  go_enter Try.func42, Try.ntmps42
  go_wp2_with fail
  rw [HW1.out]
  have y3 := y3'.out
  clear c0 c1 c2 c3 c4 c5 c6 c7 c8 cf HW1
  go_loopw [6] (fun i wr => ∃ (k : Nat), k ≤ n ∧ i = .int .i64 ((k : Int) - 1) ∧ Hid (wr = w1) ∧ Hid (lastOf st.pend k0 = lastOf (st.pend.take k) k0)) (fun i _ => (intOf i + 1).toNat)
  case atStart => exact ⟨n, by omega, rfl, rfl, by show _ = _; rw [← HN.out, List.take_length]⟩
  case round =>
    obtain ⟨k, hk, rfl, hwr, HL⟩ := hrel
    have hwr' := hwr.out
    subst hwr'
    by_cases hk1 : 1 ≤ k
    · obtain ⟨j, rfl⟩ : ∃ j, k = j + 1 := ⟨k - 1, by omega⟩
      have ej : ((j + 1 : Nat) : Int) - 1 = (j : Int) := by omega
      rw [ej]
      obtain ⟨⟨t, l9⟩, hpk⟩ : ∃ x, st.pend[j]? = some x := ⟨_, List.getElem?_eq_getElem (by rw [HN.out]; omega)⟩
      obtain ⟨v, hvk, hv⟩ := P1.out.pvals.get hpk
      obtain ⟨g, ga, hgc1, hgc2⟩ := pend_cellsT P1.out.prow hvk hpk (by show j < st.pend.length; rw [HN.out]; omega)
      obtain ⟨b9, o9, n9, c9, rfl, hr9, hn9, hm9, hz9⟩ := hv
      obtain ⟨cg, hpv'⟩ := ga
      injection hpv' with q1 q2 q3
      subst q1 q3
      clear q2
      rw [show 2 * j = j * 2 by omega] at hgc1 hgc2
      have HR9 := Lib.hid hr9
      have hl2 := lastOf_take hpk (k0 : Int)
      rw [← HL.out] at hl2
      by_cases hts : t = k0
      · subst hts
        rw [if_pos rfl] at hl2
        have HSB : Hid (secB st k0 = l9) := by
          show _ = _
          unfold secB
          rw [hl2]
          show ((st.pend[((j : Nat) : Int).toNat]?).map (·.2)).getD [] = l9
          rw [Int.toNat_natCast, hpk]
          rfl
        clear hl2 hpk hvk hr9
        go_wp2_with fail
        go_ret2
        exact ⟨_, _, _, rfl, by rw [HSB.out]; exact HR9.out, ⟨Z1.out, _, _, _, _, P1.out⟩, T1.out⟩
      · rw [if_neg (fun e => hts e.symm)] at hl2
        have HL2 := Lib.hid hl2
        have wr3 : IntKind.i64.wrap ((j : Int) - 1) = (j : Int) - 1 := by rw [IntKind.wrap_i64]; omega
        clear hl2 hpk hvk hr9
        go_wp2_with fail
        go_roundw
        case rel => first | exact ⟨j, by omega, rfl, rfl, HL2⟩ | exact ⟨j, by omega, rfl, Lib.hid trivial, HL2⟩
        case measure => simp [intOf] <;> omega
    · obtain rfl : k = 0 := by omega
      have hln : lastOf st.pend k0 = none := by rw [HL.out]; rfl
      have HSB : Hid (secB st k0 = (st.kept[k0]?).getD []) := by
        show _ = _
        unfold secB
        rw [hln]
      obtain ⟨y, hy⟩ : ∃ y, st.kept[k0]? = some y := ⟨_, List.getElem?_eq_getElem HK0.out⟩
      have hch := chunk_flatZ _ st.size P.out.ok.kept k0 y hy
      have HCH := Lib.hid hch
      have HY := Lib.hid hy
      obtain ⟨z, hzz⟩ : ∃ z, st.size = z := ⟨_, rfl⟩
      obtain ⟨N, hN⟩ : ∃ N, st.kept.length = N := ⟨_, rfl⟩
      obtain ⟨F, hF⟩ : ∃ F, st.kept.flatten.length = F := ⟨_, rfl⟩
      obtain ⟨lo, hlo⟩ : ∃ lo, k0 * z = lo := ⟨_, rfl⟩
      obtain ⟨hi, hhi⟩ : ∃ hi, lo + z = hi := ⟨_, rfl⟩
      have hsz := P.out.ok.size
      have hnk := P.out.ok.n
      have hFN : F = N * z := by rw [← hF, ← hN, ← hzz]; exact flat_len _ _ P.out.ok.kept
      have hk02 : k0 < N := by rw [← hN]; exact HK0.out
      have hin : hi ≤ F := by
        rw [hFN, ← hhi, ← hlo, ← Nat.succ_mul]
        exact Nat.mul_le_mul_right _ hk02
      have hFb : F ≤ 268435456 := by
        rw [hFN]
        exact Nat.le_trans (Nat.mul_le_mul (show N ≤ 65536 by omega) (show z ≤ 4096 by omega)) (by omega)
      have y1 := y1'.out
      have y2 := y2'.out
      replace y1 : wr.cell? ⟨r, 1, none⟩ = some (.int .i64 (z : Int)) := by rw [y1]; show some (Value.int .i64 (st.size : Int)) = _; rw [hzz]
      replace y2 : wr.cell? ⟨r, 2, none⟩ = some (.slice (some ⟨bb, 0, none⟩) F F) := by rw [y2]; show some (Value.slice _ st.kept.flatten.length st.kept.flatten.length) = _; rw [hF]
      have hrb : RdAt .u8 wr (some ⟨bb, 0, none⟩) F F st.kept.flatten := ⟨hF, Nat.le_refl _, by unfold maxLen; omega, fun i hi => ⟨bb, 0, rfl, by rw [Nat.zero_add, cell_of_row wr _ _ _ _ _ P1.out.brow]; show ((st.kept.flatten.map (Value.int .u8)).toArray)[i]? = some (.int .u8 (nth st.kept.flatten i)); rw [List.getElem?_toArray, List.getElem?_map, List.getElem?_eq_getElem (show i < st.kept.flatten.length by omega), nth_eq (show i < st.kept.flatten.length by omega)]; rfl⟩, P1.out.bwf, fun h => by cases h⟩
      have hr5 := rd_chunk hrb lo z (by omega)
      have HR5 : Hid (RdAt .u8 wr (some ⟨bb, 0 + lo, none⟩) z (F - lo) y) := by
        show RdAt _ _ _ _ _ _
        rw [← HCH.out, hzz]
        unfold chunk
        rw [hlo]
        exact hr5
      have hsz2 : 64 ≤ z ∧ z ≤ 4096 := by omega
      have g1 : (k0 : Int) * (z : Int) = (lo : Int) := by rw [← hlo, Int.natCast_mul]
      have g2 : IntKind.i64.wrap (lo : Int) = lo := by rw [IntKind.wrap_i64]; omega
      have g3 : IntKind.i64.wrap ((k0 : Int) + 1) = (k0 : Int) + 1 := by rw [IntKind.wrap_i64]; omega
      have g4 : ((k0 : Int) + 1) * (z : Int) = (hi : Int) := by rw [Int.add_mul, g1, ← hhi]; omega
      have g5 : IntKind.i64.wrap (hi : Int) = hi := by rw [IntKind.wrap_i64]; omega
      have g6 : hi - lo = z := by omega
      have g7 : ¬ F = lo := by omega
      have g8 : hi ≤ F := by omega
      have g9 : lo ≤ hi := by omega
      have g10 : ((hi : Int) ≤ F) := by omega
      have g11 : ((lo : Int) ≤ hi) := by omega
      have g12 : (((0 : Nat) : Int) - 1) = -1 := by omega
      rw [g12]
      clear hln hch hy hzz hN hF hlo hhi hFN hin hrb hr5 hsz g12
      go_wp2_with fail
      go_quiet (fail)
      go_wp2_with fail
      go_ret2
      refine ⟨_, _, _, rfl, ?_, ⟨?_, _, _, _, _, P1.out.same (w' := wr.drewN nq) (fun _ _ => rfl)⟩, ?_⟩
      · rw [HSB.out, HY.out]
        have := HR5.out
        rw [Nat.zero_add] at this
        exact this.at0 rfl
      · exact Z1.out
      · exact ⟨T1.out.os, T1.out.tape, T1.out.output, T1.out.size, T1.out.block, T1.out.sub⟩
end Go.Proofs.Ytpgncmoagmkcmaa
