/- disk: the reference's Cut and Flush. -/
import Derived.Test.YtpgncmoagmkcmaaRkKeep
namespace Go.Proofs.Ytpgncmoagmkcmaa
open Go.RowKit
theorem pend_cellsT {T : TypeId} {w : World} {pv : Value} {p : List (Int × List Int)} {vs : List Value} {k : Nat} {v : Value} {x : Int × List Int} (h : w.ownsRow 0 T 2 pv p.length (pendC p vs)) (hv : vs[k]? = some v) (hx : p[k]? = some x) (hk : k < p.length) :
    ∃ g, (∃ c, pv = .slice (some ⟨g, 0, none⟩) p.length c) ∧ w.cell? ⟨g, 2 * k, none⟩ = some (.int .i64 x.1) ∧ w.cell? ⟨g, 2 * k + 1, none⟩ = some v := by
  obtain ⟨h1, h2⟩ := pendC_at hv hx
  rcases h.2 with ⟨h3, h4⟩ | ⟨g, cap, cur, hpv, h0, hh, h5⟩
  · omega
  · subst hpv
    exact ⟨g, ⟨cap, rfl⟩, by rw [h.cellAt (2 * k) (by omega)]; exact h1, by rw [h.cellAt (2 * k + 1) (by omega)]; exact h2⟩
set_option linter.unusedVariables false in
theorem RkP.settled {w wr w5 : World} {Z : Nat → Prop} {r bb : Nat} {lv kv : Value} {pvs : List Value} {st st5 : Dk} (p : RkP wr Z r bb lv kv pvs st) (hg : w.grownBy wr (some bb)) (hz : ∀ x, Z x → x < w.heap.size)
    (hoth : ∀ x, x ≠ r → w5.heap[x]? = wr.heap[x]?) (h5 : w5.os = wr.os ∧ w5.tape = wr.tape ∧ w5.output = wr.output ∧ w5.heap.size = wr.heap.size)
    (row : w5.heap[r]? = some (.cells #[.int .i64 st5.kept.length, .int .i64 st5.size, .slice (some ⟨bb, 0, none⟩) st5.kept.flatten.length st5.kept.flatten.length, .slice none 0 0, .bool st5.off, .int .i64 st5.armed, kv, .int .i64 st5.writes, .int .i64 st5.reads] 61 (0, 0))) (e1 : st5.kept = st.kept) (e2 : st5.size = st.size) (e3 : st5.pend = []) (e4 : st5.keep = st.keep) (ok : DkOk st5) : RkIn w5 Z r st5 ∧ Tnd Z Z w w5 := by
  have hm : ∀ x, Z x → ¬ MutR r bb lv x → w5.heap[x]? = wr.heap[x]? := fun x hx h => hoth x (fun e => h (.inl e))
  have hM : ∀ x, Z x → ¬ MutR r bb lv x → ¬ MutR r bb (.slice none 0 0) x := fun x _ hm h => by
    rcases h with h | h | h
    · exact hm (.inl h)
    · exact hm (.inr (.inl h))
    · cases h
  refine ⟨⟨fun x hx => by rw [h5.2.2.2]; exact Nat.lt_of_lt_of_le (hz x hx) hg.size, bb, .slice none 0 0, kv, [], row, ?_, ?_, ?_, ?_, ?_, p.ne, (fun g hg => by cases hg), fun x h => ?_, ok⟩, ⟨h5.1.trans hg.os, h5.2.1.trans hg.tape, h5.2.2.1.trans hg.output, by rw [h5.2.2.2]; exact hg.size, fun x hx hzx => ?_, fun x h => .inl h⟩⟩
  · rw [e1, hoth bb p.ne.symm]; exact p.brow
  · rw [e1]; exact p.bwf
  · rw [e3]; exact World.ownsRow_nil _ _ _ _
  · rw [e3]; exact All2.nil _
  · rw [e4]; exact p.keep.at hm hM (fun _ h => h)
  · rcases h with h | h | h
    · exact p.z x (.inl h)
    · exact p.z x (.inr (.inl h))
    · cases h
  · rw [hoth x (fun e => hzx (by rw [e]; exact p.z r (.inl rfl)))]
    exact hg.block x hx (fun e => hzx (by rw [Option.some.inj e]; exact p.z bb (.inr (.inl rfl))))
set_option linter.unusedSimpArgs false in
set_option linter.unusedVariables false in
set_option maxRecDepth 100000 in
set_option maxHeartbeats 4000000 in
theorem rcutP (Z : Nat → Prop) (r bb : Nat) (lv kv : Value) (pvs : List Value) (st : Dk) (w : World) (p : RkP w Z r bb lv kv pvs st) (hz : ∀ k, Z k → k < w.heap.size) (ka : Option Addr) (kn kc : Nat) (kl : List Bool) (hk : RdB w ka kn kc kl) (hkq : ∀ q, ka = some q → 0 < kn → q.block ≠ bb) :
    Calls Try.prog 30 #[.pointer (some ⟨r, 0, none⟩), .slice ka kn kc] w fun e w' => e = .returned (.tuple #[]) ∧ RkIn w' Z r (cutS st kl) ∧ Tnd Z Z w w' := by
  obtain ⟨c0, c1, c2, c3, c4, c5, c6, c7, c8, cf⟩ := cellsD p.row
  obtain ⟨n, hn⟩ : ∃ n, st.pend.length = n := ⟨_, rfl⟩
  have HN := Lib.hid hn
  obtain ⟨pa, pc, hpv⟩ := owns_shape p.prow
  rw [hn] at hpv
  subst hpv
  have hfew := p.ok.few
  rw [hn] at hfew
  have P := Lib.hid p
  have HQ : Hid (∀ q, ka = some q → 0 < kn → True ∧ q.block ≠ bb) := fun q h1 h2 => ⟨trivial, hkq q h1 h2⟩
  have HK := Lib.hid hk
  have hkmax := hk.max
  have hkcap := hk.cap
  unfold maxLen at hkmax
  clear p hn hk hkq
  go_enter Try.func30, Try.ntmps30
  go_wp2_with fail
  go_loopw [4] (fun i wr => ∃ (k : Nat) (kept' : List (List Int)), k ≤ n ∧ i = .int .i64 k ∧ Hid (RkP wr Z r bb (.slice pa n pc) kv pvs { st with kept := kept' }) ∧ Hid (∀ x, Z x → x < wr.heap.size) ∧ Hid (settleK (fun i => kl.getD i false) k (st.pend.drop k) kept' = settleK (fun i => kl.getD i false) 0 st.pend st.kept) ∧ Hid (w.grownBy wr (some bb))) (fun i _ => n - (intOf i).toNat)
  case atStart => exact ⟨0, st.kept, by omega, rfl, P.out, hz, rfl, World.grownBy.refl _ _⟩
  case round =>
    clear c0 c1 c2 c3 c4 c5 c6 c7 c8 cf
    obtain ⟨k, kept', hk, rfl, P5, HZ5, HS, HG⟩ := hrel
    obtain ⟨c0, c1, c2, c3, c4, c5, c6, c7, c8, cf⟩ := cellsD P5.out.row
    by_cases hp : k < n
    · obtain ⟨⟨s, b⟩, hpk⟩ : ∃ x, st.pend[k]? = some x := ⟨_, List.getElem?_eq_getElem (by rw [HN.out]; exact hp)⟩
      obtain ⟨v, hvk, hv⟩ := P5.out.pvals.get hpk
      obtain ⟨g, ga, hgc1, hgc2⟩ := pend_cellsT P5.out.prow hvk hpk (by show k < st.pend.length; rw [HN.out]; exact hp)
      obtain ⟨b9, o9, n9, c9, rfl, hr9, hn9, hm9, hz9⟩ := hv
      have hpok := P5.out.ok.pend _ (List.mem_of_getElem? hpk)
      obtain ⟨hp1, hp2, hp3⟩ := hpok
      obtain ⟨sn, rfl⟩ := Int.eq_ofNat_of_zero_le (show 0 ≤ s from hp2)
      have hdr : st.pend.drop k = ((sn : Int), b) :: st.pend.drop (k + 1) := by
        rw [List.drop_eq_getElem_cons (by rw [HN.out]; exact hp)]
        congr 1
        have := List.getElem?_eq_getElem (l := st.pend) (i := k) (by rw [HN.out]; exact hp)
        rw [this] at hpk
        injection hpk
      obtain ⟨cg, hpv'⟩ := ga
      injection hpv' with q1 q2 q3
      subst q1 q3
      clear q2
      rw [show 2 * k = k * 2 by omega] at hgc1 hgc2
      have HDR := Lib.hid hdr
      have HP1 := Lib.hid hp1
      have HR9 := Lib.hid hr9
      have hsn : sn < kept'.length := by
        have h3 : (sn : Int) < kept'.length := hp3
        omega
      have hm9' : b9 ≠ r ∧ b9 ≠ bb := ⟨fun e => hm9 (.inl e), fun e => hm9 (.inr (.inl e))⟩
      clear hdr hpk hp1 hvk hr9 hp2 hp3
      by_cases hkk : kl.getD k false = true
      · have HKK := Lib.hid hkk
        have hkn : k < kn := by
          by_cases hx : k < kn
          · exact hx
          · rw [List.getD_eq_getElem?_getD, List.getElem?_eq_none (by rw [HK.out.len]; omega)] at hkk
            cases hkk
        obtain ⟨kb1, ko1, ke1, kc1⟩ := HK.out.cell k hkn
        subst ke1
        have kb2 : kb1 ≠ bb := by
          have := (HQ.out _ rfl (by omega)).2
          exact fun e => this e
        rw [hkk] at kc1
        have kc2 : wr.cell? ⟨kb1, ko1 + k, none⟩ = some (.bool true) := HG.out.cell kc1 (fun e => kb2 (Option.some.inj e))
        have dk1 : decide ((k : Int) < kn) = true := decide_eq_true (by omega)
        clear kc1
        clear hkk
        go_wp2_with fail
        refine (keep_any Z r bb _ kv pvs _ sn b9 o9 n9 c9 b wr P5.out HZ5.out HR9.out hm9' hsn (by rw [HP1.out])).mono ?_
        rintro e w3 ⟨rfl, hp3, hg3⟩
        have P6 : Hid (RkP w3 Z r bb (.slice (some ⟨g, 0, none⟩) n pc) kv pvs { st with kept := kept'.set sn b }) := hp3
        have HG6 : Hid (w.grownBy w3 (some bb)) := HG.out.trans hg3
        have HZ6 : Hid (∀ x, Z x → x < w3.heap.size) := fun x hx => Nat.lt_of_lt_of_le (HZ5.out x hx) hg3.size
        have HNX : Hid (settleK (fun i => kl.getD i false) (k + 1) (st.pend.drop (k + 1)) (kept'.set sn b) = settleK (fun i => kl.getD i false) 0 st.pend st.kept) := by
          show _ = _
          rw [← HS.out, HDR.out, settleK, if_pos HKK.out]
          rfl
        clear hp3 hg3
        go_wp2_with fail
        go_roundw
        case rel => exact ⟨k + 1, kept'.set sn b, by omega, by go_num, P6, HZ6, HNX, HG6⟩
        case measure => simp [intOf] <;> omega
      · have HKF : Hid (¬ kl.getD k false = true) := hkk
        by_cases hkn : k < kn
        · obtain ⟨kb1, ko1, ke1, kc1⟩ := HK.out.cell k hkn
          subst ke1
          have kb2 : kb1 ≠ bb := by
            have := (HQ.out _ rfl (by omega)).2
            exact fun e => this e
          rw [show kl.getD k false = false by simpa using hkk] at kc1
          have kc2 : wr.cell? ⟨kb1, ko1 + k, none⟩ = some (.bool false) := HG.out.cell kc1 (fun e => kb2 (Option.some.inj e))
          have dk1 : decide ((k : Int) < kn) = true := decide_eq_true (by omega)
          clear kc1 hkk
          have HNX : Hid (settleK (fun i => kl.getD i false) (k + 1) (st.pend.drop (k + 1)) kept' = settleK (fun i => kl.getD i false) 0 st.pend st.kept) := by
            show _ = _
            rw [← HS.out, HDR.out, settleK, if_neg HKF.out]
          go_wp2_with fail
          go_roundw
          case rel => exact ⟨k + 1, kept', by omega, by go_num, P5, HZ5, HNX, HG⟩
          case measure => simp [intOf] <;> omega
        have dk1 : decide ((k : Int) < kn) = false := decide_eq_false (by omega)
        have dk2 : decide (k < kn) = false := decide_eq_false (by omega)
        have HNX : Hid (settleK (fun i => kl.getD i false) (k + 1) (st.pend.drop (k + 1)) kept' = settleK (fun i => kl.getD i false) 0 st.pend st.kept) := by
          show _ = _
          rw [← HS.out, HDR.out, settleK, if_neg HKF.out]
        clear hkk
        go_wp2_with fail
        all_goals
          go_roundw
          case rel => exact ⟨k + 1, kept', by omega, by go_num, P5, HZ5, HNX, HG⟩
          case measure => simp [intOf] <;> omega
    · obtain rfl : k = n := by omega
      have hK : settleK (fun i => kl.getD i false) 0 st.pend st.kept = kept' := by
        rw [← HS.out, List.drop_of_length_le (by rw [HN.out]; exact Nat.le_refl _)]
        rfl
      have HK9 := Lib.hid hK
      clear hK
      go_wp2_with fail
      go_end0
      have hoth : ∀ x, x ≠ r → (((wr.setCell ⟨r, 3, none⟩ (.slice none 0 0)).setCell ⟨r, 4, none⟩ (.bool true)).setCell ⟨r, 5, none⟩ (.int .i64 0)).heap[x]? = wr.heap[x]? := fun x hne => by
        rw [heap_setCell_other _ ⟨r, 5, none⟩ x _ hne, heap_setCell_other _ ⟨r, 4, none⟩ x _ hne, heap_setCell_other wr ⟨r, 3, none⟩ x _ hne]
      have := P5.out.settled HG.out hz hoth ⟨rfl, rfl, rfl, by simp⟩ (st5 := cutS st kl) (by
        rw [heap_setCell_same _ r 5 _ _ _ (heap_setCell_same _ r 4 _ _ _ (heap_setCell_same wr r 3 _ _ _ P5.out.row))]
        unfold cutS
        rw [HK9.out]
        simp) HK9.out rfl rfl rfl (by
        unfold cutS
        rw [HK9.out]
        exact ⟨P5.out.ok.size, P5.out.ok.n, P5.out.ok.kept, (fun q hq => by cases hq), by show (0:Int) ≤ 0 ∧ (0:Int) ≤ _; omega, Nat.zero_le _, P5.out.ok.writes, P5.out.ok.reads⟩)
      exact ⟨rfl, this⟩
theorem rcut_any (Z : Nat → Prop) (r : Nat) (st : Dk) (w : World) (h : RkIn w Z r st) (ka : Option Addr) (kn kc : Nat) (kl : List Bool) (hk : RdB w ka kn kc kl) (hkq : ∀ q, ka = some q → 0 < kn → ¬ Z q.block) :
    Calls Try.prog 30 #[.pointer (some ⟨r, 0, none⟩), .slice ka kn kc] w fun e w' => e = .returned (.tuple #[]) ∧ RkIn w' Z r (cutS st kl) ∧ Tnd Z Z w w' := by
  obtain ⟨hz, bb, lv, kv, pvs, p⟩ := h
  exact rcutP Z r bb lv kv pvs st w p hz ka kn kc kl hk (fun q h1 h2 e => hkq q h1 h2 (by rw [e]; exact p.z bb (.inr (.inl rfl))))
set_option linter.unusedSimpArgs false in
set_option linter.unusedVariables false in
set_option maxRecDepth 100000 in
set_option maxHeartbeats 4000000 in
theorem rflush_any (Z : Nat → Prop) (r : Nat) (st : Dk) (w : World) (h : RkIn w Z r st) :
    Calls Try.prog 28 #[.pointer (some ⟨r, 0, none⟩)] w fun e w' => e = .returned (.int .i64 (if st.off = true then 8 else 0)) ∧ RkIn w' Z r (if st.off = true then st else flushS st) ∧ Tnd Z Z w w' := by
  have H := Lib.hid h
  obtain ⟨hz, bb, lv, kv, pvs, p⟩ := h
  obtain ⟨c0, c1, c2, c3, c4, c5, c6, c7, c8, cf⟩ := cellsD p.row
  obtain ⟨n, hn⟩ : ∃ n, st.pend.length = n := ⟨_, rfl⟩
  have HN := Lib.hid hn
  obtain ⟨pa, pc, hpv⟩ := owns_shape p.prow
  rw [hn] at hpv
  subst hpv
  have hfew := p.ok.few
  rw [hn] at hfew
  have P := Lib.hid p
  clear p hn
  cases ho : st.off with
  | true =>
    rw [if_pos rfl, if_pos rfl]
    rw [ho] at c4
    clear ho
    go_enter Try.func28, Try.ntmps28
    go_wp2_with fail
    go_ret
    exact ⟨rfl, H.out, Tnd.refl _ _⟩
  | false =>
  rw [if_neg (by decide), if_neg (by decide)]
  rw [ho] at c4
  have HO := Lib.hid ho
  clear ho
  go_enter Try.func28, Try.ntmps28
  go_wp2_with fail
  go_loopw [3] (fun i wr => ∃ (k : Nat) (kept' : List (List Int)), k ≤ n ∧ i = .int .i64 k ∧ Hid (RkP wr Z r bb (.slice pa n pc) kv pvs { st with kept := kept' }) ∧ Hid (∀ x, Z x → x < wr.heap.size) ∧ Hid (settleK (fun _ => true) k (st.pend.drop k) kept' = settleK (fun _ => true) 0 st.pend st.kept) ∧ Hid (w.grownBy wr (some bb))) (fun i _ => n - (intOf i).toNat)
  case atStart => exact ⟨0, st.kept, by omega, rfl, P.out, hz, rfl, World.grownBy.refl _ _⟩
  case round =>
    clear c0 c1 c2 c3 c4 c5 c6 c7 c8 cf
    obtain ⟨k, kept', hk, rfl, P5, HZ5, HS, HG⟩ := hrel
    obtain ⟨c0, c1, c2, c3, c4, c5, c6, c7, c8, cf⟩ := cellsD P5.out.row
    by_cases hp : k < n
    · obtain ⟨⟨s, b⟩, hpk⟩ : ∃ x, st.pend[k]? = some x := ⟨_, List.getElem?_eq_getElem (by rw [HN.out]; exact hp)⟩
      obtain ⟨v, hvk, hv⟩ := P5.out.pvals.get hpk
      obtain ⟨g, ga, hgc1, hgc2⟩ := pend_cellsT P5.out.prow hvk hpk (by show k < st.pend.length; rw [HN.out]; exact hp)
      obtain ⟨b9, o9, n9, c9, rfl, hr9, hn9, hm9, hz9⟩ := hv
      have hpok := P5.out.ok.pend _ (List.mem_of_getElem? hpk)
      obtain ⟨hp1, hp2, hp3⟩ := hpok
      obtain ⟨sn, rfl⟩ := Int.eq_ofNat_of_zero_le (show 0 ≤ s from hp2)
      have hdr : st.pend.drop k = ((sn : Int), b) :: st.pend.drop (k + 1) := by
        rw [List.drop_eq_getElem_cons (by rw [HN.out]; exact hp)]
        congr 1
        have := List.getElem?_eq_getElem (l := st.pend) (i := k) (by rw [HN.out]; exact hp)
        rw [this] at hpk
        injection hpk
      obtain ⟨cg, hpv'⟩ := ga
      injection hpv' with q1 q2 q3
      subst q1 q3
      clear q2
      rw [show 2 * k = k * 2 by omega] at hgc1 hgc2
      have HDR := Lib.hid hdr
      have HP1 := Lib.hid hp1
      have HR9 := Lib.hid hr9
      have hsn : sn < kept'.length := by
        have h3 : (sn : Int) < kept'.length := hp3
        omega
      have hm9' : b9 ≠ r ∧ b9 ≠ bb := ⟨fun e => hm9 (.inl e), fun e => hm9 (.inr (.inl e))⟩
      clear hdr hpk hp1 hvk hr9 hp2 hp3
      go_wp2_with fail
      refine (keep_any Z r bb _ kv pvs _ sn b9 o9 n9 c9 b wr P5.out HZ5.out HR9.out hm9' hsn (by rw [HP1.out])).mono ?_
      rintro e w3 ⟨rfl, hp3, hg3⟩
      have P6 : Hid (RkP w3 Z r bb (.slice (some ⟨g, 0, none⟩) n pc) kv pvs { st with kept := kept'.set sn b }) := hp3
      have HG6 : Hid (w.grownBy w3 (some bb)) := HG.out.trans hg3
      have HZ6 : Hid (∀ x, Z x → x < w3.heap.size) := fun x hx => Nat.lt_of_lt_of_le (HZ5.out x hx) hg3.size
      have HNX : Hid (settleK (fun _ => true) (k + 1) (st.pend.drop (k + 1)) (kept'.set sn b) = settleK (fun _ => true) 0 st.pend st.kept) := by
        show _ = _
        rw [← HS.out, HDR.out, settleK]
        rfl
      clear hp3 hg3
      go_wp2_with fail
      go_roundw
      case rel => exact ⟨k + 1, kept'.set sn b, by omega, by go_num, P6, HZ6, HNX, HG6⟩
      case measure => simp [intOf] <;> omega
    · obtain rfl : k = n := by omega
      have hK : settleK (fun _ => true) 0 st.pend st.kept = kept' := by
        rw [← HS.out, List.drop_of_length_le (by rw [HN.out]; exact Nat.le_refl _)]
        rfl
      have HK9 := Lib.hid hK
      clear hK
      go_wp2_with fail
      go_ret
      have hoth : ∀ x, x ≠ r → (wr.setCell ⟨r, 3, none⟩ (.slice none 0 0)).heap[x]? = wr.heap[x]? := fun x hne => heap_setCell_other wr ⟨r, 3, none⟩ x _ hne
      have := P5.out.settled HG.out hz hoth ⟨rfl, rfl, rfl, by simp⟩ (st5 := flushS st) (by
        rw [heap_setCell_same wr r 3 _ _ _ P5.out.row]
        unfold flushS
        rw [HK9.out]
        simp) HK9.out rfl rfl rfl (by
        unfold flushS
        rw [HK9.out]
        exact ⟨P5.out.ok.size, P5.out.ok.n, P5.out.ok.kept, (fun q hq => by cases hq), P5.out.ok.armed, Nat.zero_le _, P5.out.ok.writes, P5.out.ok.reads⟩)
      exact ⟨rfl, this⟩
end Go.Proofs.Ytpgncmoagmkcmaa
