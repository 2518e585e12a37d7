/- disk: the power, Cut, Flush, New. -/
import Derived.Test.YtpgncmoagmkcmaaDkA
import Derived.OwnWalk
import Derived.Carry
namespace Go.Proofs.Ytpgncmoagmkcmaa
open Go.RowKit
theorem DkP.re {w w' : World} {Z : Nat → Prop} {d kb mb : Nat} {pv kv : Value} {vals pvs : List Value} {st st' : Dk} (p : DkP w Z d kb mb pv kv vals pvs st) (hoth : ∀ x, Z x → x ≠ d → w'.heap[x]? = w.heap[x]?)
    (row : w'.heap[d]? = some (.cells #[.bool st'.off, .int .i64 st'.armed, kv, .int .i64 st'.size, .slice (some ⟨kb, 0, none⟩) st'.kept.length st'.kept.length, pv, .map (some mb), .int .i64 st'.writes, .int .i64 st'.reads] 37 (0, 0))) (e1 : st'.kept = st.kept) (e2 : st'.size = st.size) (e3 : st'.pend = st.pend) (e4 : st'.keep = st.keep) (ok : DkOk st') : DkP w' Z d kb mb pv kv vals pvs st' := by
  have hm : ∀ x, Z x → ¬ MutD d kb mb pv x → w'.heap[x]? = w.heap[x]? := fun x hx h => hoth x hx (fun e => h (.inl e))
  refine ⟨row, ?_, ?_, ?_, ?_, ?_, ?_, p.ne, p.rm, p.z, ok⟩
  · rw [hoth kb (p.z kb (.inr (.inl rfl))) p.ne.1.symm]; exact p.krow
  · rw [e1, e2]; exact p.kvals.imp fun v l h => h.at hm (fun _ _ h => h) (fun _ h => h)
  · rw [e3]; exact ownsRow_at p.prow (fun g hg => hoth g (p.z g (.inr (.inr (.inr hg)))) (p.rm g hg).1)
  · rw [e3]; exact p.pvals.imp fun v l h => h.at hm (fun _ _ h => h) (fun _ h => h)
  · rw [e3]; exact p.map.at (hoth mb (p.z mb (.inr (.inr (.inl rfl)))) p.ne.2.1.symm)
  · rw [e4]; exact p.keep.at hm (fun _ _ h => h) (fun _ h => h)
theorem Tnd.trans {Z Z1 Z2 : Nat → Prop} {w w1 w2 : World} (h : Tnd Z Z1 w w1) (k : Tnd Z1 Z2 w1 w2) : Tnd Z Z2 w w2 :=
  ⟨k.os.trans h.os, k.tape.trans h.tape, k.output.trans h.output, Nat.le_trans h.size k.size, fun x hx hn => by
    rw [k.block x (Nat.lt_of_lt_of_le hx h.size) (fun h1 => by rcases h.sub x h1 with h2 | h2; exact hn h2; omega)]
    exact h.block x hx hn, fun x hx => by
    rcases k.sub x hx with h1 | h1
    · exact h.sub x h1
    · exact .inr (Nat.le_trans h.size h1)⟩
theorem heap_alloc_keep (w : World) (o : Obj) {k : Nat} (h : k < w.heap.size) : (w.alloc o).heap[k]? = w.heap[k]? := by
  show (w.heap.push o)[k]? = _
  simp [Array.getElem?_push, Nat.ne_of_lt h]
/-- A disk that nothing has touched. -/
theorem DkIn.same {w w' : World} {Z : Nat → Prop} {d : Nat} {st : Dk} (h : DkIn w Z d st) (hs : ∀ x, Z x → w'.heap[x]? = w.heap[x]?) (hsz : w.heap.size ≤ w'.heap.size) : DkIn w' Z d st := by
  obtain ⟨hz, kb, mb, pv, kv, vals, pvs, p⟩ := h
  refine ⟨fun x hx => Nat.lt_of_lt_of_le (hz x hx) hsz, kb, mb, pv, kv, vals, pvs, p.re (fun x hx _ => hs x hx) ?_ rfl rfl rfl rfl p.ok⟩
  rw [hs d (p.z d (.inl rfl))]; exact p.row
theorem DkIn.below {w w' : World} {Z : Nat → Prop} {d : Nat} {st : Dk} (h : DkIn w Z d st) (hb : Below w.heap.size w w') : DkIn w' Z d st := h.same (fun x hx => hb.block x (h.1 x hx)) hb.size
set_option linter.unusedSimpArgs false in
set_option linter.unusedVariables false in
set_option maxRecDepth 100000 in
set_option maxHeartbeats 2000000 in
theorem off_any (Z : Nat → Prop) (d : Nat) (st : Dk) (w : World) (h : DkIn w Z d st) :
    Calls Try.prog 17 #[.pointer (some ⟨d, 0, none⟩)] w fun e w' => e = .returned (.bool st.off) ∧ w = w' := by
  obtain ⟨hz, kb, mb, pv, kv, vals, pvs, p⟩ := h
  obtain ⟨c0, c1, c2, c3, c4, c5, c6, c7, c8, cf⟩ := cellsD p.row
  clear p
  go_enter Try.func17, Try.ntmps17
  go_wp2
  go_ret
  exact ⟨rfl, rfl⟩
set_option linter.unusedSimpArgs false in
set_option linter.unusedVariables false in
set_option maxRecDepth 100000 in
set_option maxHeartbeats 2000000 in
theorem writes_any (Z : Nat → Prop) (d : Nat) (st : Dk) (w : World) (h : DkIn w Z d st) :
    Calls Try.prog 14 #[.pointer (some ⟨d, 0, none⟩)] w fun e w' => e = .returned (.int .i64 st.writes) ∧ w = w' := by
  obtain ⟨hz, kb, mb, pv, kv, vals, pvs, p⟩ := h
  obtain ⟨c0, c1, c2, c3, c4, c5, c6, c7, c8, cf⟩ := cellsD p.row
  clear p
  go_enter Try.func14, Try.ntmps14
  go_wp2
  go_ret
  exact ⟨rfl, rfl⟩
set_option linter.unusedSimpArgs false in
set_option linter.unusedVariables false in
set_option maxRecDepth 100000 in
set_option maxHeartbeats 2000000 in
theorem pending_any (Z : Nat → Prop) (d : Nat) (st : Dk) (w : World) (h : DkIn w Z d st) :
    Calls Try.prog 18 #[.pointer (some ⟨d, 0, none⟩)] w fun e w' => e = .returned (.int .i64 (st.pend.length : Nat)) ∧ w = w' := by
  obtain ⟨hz, kb, mb, pv, kv, vals, pvs, p⟩ := h
  obtain ⟨c0, c1, c2, c3, c4, c5, c6, c7, c8, cf⟩ := cellsD p.row
  obtain ⟨pa, pc, hpv⟩ := owns_shape p.prow
  rw [hpv] at c5
  clear p hpv
  go_enter Try.func18, Try.ntmps18
  go_wp2
  go_ret
  exact ⟨rfl, rfl⟩
set_option linter.unusedSimpArgs false in
set_option linter.unusedVariables false in
set_option maxRecDepth 100000 in
set_option maxHeartbeats 2000000 in
theorem there_any (Z : Nat → Prop) (d : Nat) (st : Dk) (s : Int) (w : World) (h : DkIn w Z d st) :
    Calls Try.prog 34 #[.pointer (some ⟨d, 0, none⟩), .int .i64 s] w fun e w' => e = .returned (.bool (inS st s)) ∧ w = w' := by
  obtain ⟨hz, kb, mb, pv, kv, vals, pvs, p⟩ := h
  obtain ⟨c0, c1, c2, c3, c4, c5, c6, c7, c8, cf⟩ := cellsD p.row
  have hE : inS st s = (decide (0 ≤ s) && decide (s < st.kept.length)) := rfl
  clear p
  by_cases h0 : 0 ≤ s
  · have d0 : decide (0 ≤ s) = true := decide_eq_true h0
    rw [hE, d0]
    clear hE
    go_enter Try.func34, Try.ntmps34
    go_wp2
    all_goals
      go_ret
      exact ⟨rfl, rfl⟩
  · have d0 : decide (0 ≤ s) = false := decide_eq_false h0
    rw [hE, d0]
    clear hE
    go_enter Try.func34, Try.ntmps34
    go_wp2
    go_ret
    exact ⟨rfl, rfl⟩
set_option linter.unusedSimpArgs false in
set_option linter.unusedVariables false in
set_option maxRecDepth 100000 in
set_option maxHeartbeats 2000000 in
theorem on_any (Z : Nat → Prop) (d : Nat) (st : Dk) (w : World) (h : DkIn w Z d st) :
    Calls Try.prog 12 #[.pointer (some ⟨d, 0, none⟩)] w fun e w' => e = .returned (.tuple #[]) ∧ DkIn w' Z d { st with off := false } ∧ Tnd Z Z w w' := by
  obtain ⟨hz, kb, mb, pv, kv, vals, pvs, p⟩ := h
  obtain ⟨c0, c1, c2, c3, c4, c5, c6, c7, c8, cf⟩ := cellsD p.row
  have P := Lib.hid p
  have hZm := p.z
  clear p
  go_enter Try.func12, Try.ntmps12
  go_wp2
  go_end0
  refine ⟨rfl, ⟨fun x hx => by simpa using hz x hx, kb, mb, pv, kv, vals, pvs, P.out.re (fun x _ hne => heap_setCell_other w ⟨d, 0, none⟩ x _ hne) ?_ rfl rfl rfl rfl ⟨P.out.ok.size, P.out.ok.n, P.out.ok.kept, P.out.ok.pend, P.out.ok.armed, P.out.ok.few, P.out.ok.writes, P.out.ok.reads⟩⟩, ⟨rfl, rfl, rfl, by simp, fun x _ hzx => heap_setCell_other w ⟨d, 0, none⟩ x _ (fun e => hzx (by rw [show x = d from e]; exact hZm d (.inl rfl))), fun x h => .inl h⟩⟩
  rw [heap_setCell_same w d 0 _ _ _ P.out.row]
  simp
set_option linter.unusedSimpArgs false in
set_option linter.unusedVariables false in
set_option maxRecDepth 100000 in
set_option maxHeartbeats 2000000 in
theorem cutP (Z : Nat → Prop) (d kb mb : Nat) (pv kv : Value) (vals pvs : List Value) (st : Dk) (w : World) (p : DkP w Z d kb mb pv kv vals pvs st) (hz : ∀ k, Z k → k < w.heap.size) (a : Option Addr) (n c : Nat) (kl : List Bool) (hr : RdB w a n c kl) (hlo : ∀ x, a = some x → 0 < n → x.block < w.heap.size ∧ ¬ MutD d kb mb pv x.block) :
    Calls Try.prog 11 #[.pointer (some ⟨d, 0, none⟩), .slice a n c] w fun e w' => e = .returned (.tuple #[]) ∧ DkIn w' Z d (cutS st kl) ∧ Tnd Z Z w w' := by
  have hd : d < w.heap.size := hz d (p.z d (.inl rfl))
  obtain ⟨c0, c1, c2, c3, c4, c5, c6, c7, c8, cf⟩ := cellsD p.row
  have P := Lib.hid p
  have hdq : d ≠ w.heap.size := by omega
  clear p
  go_enter Try.func11, Try.ntmps11
  have hmf : ∀ (fn : Fn) (first cap : Array Value) (w : World), (Instr.makeFunc fn first cap).run Try.prog w = .ok (.func fn first cap) w := fun _ _ _ _ => rfl
  go_wp2_with fail
  obtain ⟨w2, hw2⟩ : ∃ w2, (((w.setCell ⟨d, 0, none⟩ (.bool true)).setCell ⟨d, 1, none⟩ (.int .i64 0)).alloc (.cells #[.slice a n c] 23)) = w2 := ⟨_, rfl⟩
  have hoth : ∀ x, x < w.heap.size → x ≠ d → w2.heap[x]? = w.heap[x]? := fun x hx hne => by
    rw [← hw2, heap_alloc_keep _ _ (by simpa using hx), heap_setCell_other _ ⟨d, 1, none⟩ x _ hne, heap_setCell_other _ ⟨d, 0, none⟩ x _ hne]
  have hrow : w2.heap[d]? = some (.cells #[.bool true, .int .i64 0, kv, .int .i64 st.size, .slice (some ⟨kb, 0, none⟩) st.kept.length st.kept.length, pv, .map (some mb), .int .i64 st.writes, .int .i64 st.reads] 37 (0, 0)) := by
    rw [← hw2, heap_alloc_keep _ _ (by simpa using hd), heap_setCell_same _ d 1 _ _ _ (heap_setCell_same w d 0 _ _ _ P.out.row)]
    simp
  have hq : w2.heap[w.heap.size]? = some (.cells #[.slice a n c] 23 (0, 0)) := by
    rw [← hw2]
    have := heap_alloc_new ((w.setCell ⟨d, 0, none⟩ (.bool true)).setCell ⟨d, 1, none⟩ (.int .i64 0)) (.cells #[.slice a n c] 23)
    simpa using this
  have hs2 : w2.heap.size = w.heap.size + 1 := by rw [← hw2]; simp
  have hmeta : w2.os = w.os ∧ w2.tape = w.tape ∧ w2.output = w.output := by rw [← hw2]; exact ⟨rfl, rfl, rfl⟩
  rw [hw2]
  have P2 : DkP w2 Z d kb mb pv kv vals pvs { st with off := true, armed := 0 } := P.out.re (fun x hx hne => hoth x (hz x hx) hne) hrow rfl rfl rfl rfl ⟨P.out.ok.size, P.out.ok.n, P.out.ok.kept, P.out.ok.pend, ⟨(show (0:Int) ≤ 0 by decide), (show (0:Int) ≤ 9223372036854775807 by decide)⟩, P.out.ok.few, P.out.ok.writes, P.out.ok.reads⟩
  have hkb : kb < w.heap.size := hz kb (P.out.z kb (.inr (.inl rfl)))
  have ht2 : Tnd Z Z w w2 := ⟨hmeta.1, hmeta.2.1, hmeta.2.2, by omega, fun x hx hzx => hoth x hx (fun e => hzx (by rw [e]; exact P.out.z d (.inl rfl))), fun x h => .inl h⟩
  refine (settle_cut Z d kb mb pv kv vals pvs _ w2 P2 (fun x hx => by have := hz x hx; omega) w.heap.size a n c kl hq (by omega) (hr.kept (fun x h1 h2 => hoth x.block (hlo x h1 h2).1 (fun e => (hlo x h1 h2).2 (.inl e)))) (fun x h1 h2 => by have := (hlo x h1 h2).1; omega) (fun x h1 h2 e => (hlo x h1 h2).2 (.inr (.inl e)))).mono ?_
  rintro e w3 ⟨rfl, hd3, ht3⟩
  have HD3 := Lib.hid hd3
  have HT3 := Lib.hid (ht2.trans ht3)
  clear hd3 ht3 ht2 P2 hoth hrow hq hw2 c0 c1 c2 c3 c4 c5 c6 c7 c8 cf
  go_wp2_with fail
  go_end0
  exact ⟨rfl, HD3.out, HT3.out⟩
set_option linter.unusedSimpArgs false in
set_option linter.unusedVariables false in
set_option maxRecDepth 100000 in
set_option maxHeartbeats 2000000 in
theorem cut_any (Z : Nat → Prop) (d : Nat) (st : Dk) (w : World) (h : DkIn w Z d st) (a : Option Addr) (n c : Nat) (kl : List Bool) (hr : RdB w a n c kl) (hlo : ∀ x, a = some x → 0 < n → x.block < w.heap.size ∧ ¬ Z x.block) :
    Calls Try.prog 11 #[.pointer (some ⟨d, 0, none⟩), .slice a n c] w fun e w' => e = .returned (.tuple #[]) ∧ DkIn w' Z d (cutS st kl) ∧ Tnd Z Z w w' := by
  obtain ⟨hz, kb, mb, pv, kv, vals, pvs, p⟩ := h
  exact cutP Z d kb mb pv kv vals pvs st w p hz a n c kl hr (fun x h1 h2 => ⟨(hlo x h1 h2).1, fun hm => (hlo x h1 h2).2 (p.z _ hm)⟩)
set_option linter.unusedSimpArgs false in
set_option linter.unusedVariables false in
set_option maxRecDepth 100000 in
set_option maxHeartbeats 2000000 in
theorem flush_any (Z : Nat → Prop) (d : Nat) (st : Dk) (w : World) (h : DkIn w Z d st) :
    Calls Try.prog 16 #[.pointer (some ⟨d, 0, none⟩)] w fun e w' => e = .returned (.int .i64 (if st.off = true then 8 else 0)) ∧ DkIn w' Z d (if st.off = true then st else flushS st) ∧ Tnd Z Z w w' := by
  have H := Lib.hid h
  cases ho : st.off with
  | true =>
    rw [if_pos rfl, if_pos rfl]
    have HO := Lib.hid ho
    clear ho h
    go_enter Try.func16, Try.ntmps16
    go_wp2_with fail
    refine (off_any Z d st w H.out).mono ?_
    rintro e w1 ⟨rfl, rfl⟩
    rw [HO.out]
    go_wp2_with fail
    go_ret
    exact ⟨rfl, H.out, Tnd.refl _ _⟩
  | false =>
    rw [if_neg (by decide), if_neg (by decide)]
    have HO := Lib.hid ho
    obtain ⟨hz, kb, mb, pv, kv, vals, pvs, p⟩ := h
    have P := Lib.hid p
    clear ho p
    go_enter Try.func16, Try.ntmps16
    go_wp2_with fail
    refine (off_any Z d st w H.out).mono ?_
    rintro e w1 ⟨rfl, rfl⟩
    rw [HO.out]
    go_wp2_with fail
    refine (settle_all Z d kb mb pv kv vals pvs st w P.out hz).mono ?_
    rintro e w1 ⟨rfl, hd1, ht1⟩
    have HD1 := Lib.hid hd1
    have HT1 := Lib.hid ht1
    clear hd1 ht1
    go_wp2_with fail
    go_ret
    exact ⟨rfl, HD1.out, HT1.out⟩
end Go.Proofs.Ytpgncmoagmkcmaa
