/- model: a row of slices of bytes beside a machine (as ring's, with Tn for what turned). What the laws' walks begin with. Rows held against each other: bytes.Equal, slices.Equal of ints and of regions. How many pages of a process two machines do not have alike (unlike). -/
import Derived.Test.YtnbjodoajfkekaaMj0
import Derived.Test.YtnbjodoajfkekaaMj12
import Derived.Test.YtnbjodoajfkekaaMj1
import Derived.Test.YtnbjodoajfkekaaMj10
import Derived.OwnWalk
import Derived.Test.YtnbjodoajfkekaaMj22
import Derived.Test.YtnbjodoajfkekaaMg1
import Derived.WalkKit
import Derived.ProofKit
import Derived.BigQuiet
import Derived.Deep.QuietTactic
import Derived.Lib.Hide
import Derived.RegionTactic
import Derived.Test.YtnbjodoajfkekaaMj13
import Derived.Test.YtnbjodoajfkekaaMj16
import Derived.Test.YtnbjodoajfkekaaMj18
namespace Go.Proofs.Ytnbjodoajfkekaa
open Go.RowKit
def rowInfoR : Prop := (Try.prog.info? 25).map (fun i => (i.zero, i.size, i.bytes)) = some (some (.slice none 0 0), 1, 24)
theorem rowIR : rowInfoR := by unfold rowInfoR; kernel_rfl
set_option maxRecDepth 100000 in
theorem rowTR : Try.prog.underlying 47 = some (.slice 25) := Try.underlying47
theorem ownsRow_at {w w' : World} {e : TypeId} {size n : Nat} {v : Value} {xs : List Value} (h : w.ownsRow 0 e size v n xs) (hb : ∀ g, v.ownBlock = some g → w'.heap[g]? = w.heap[g]?) : w'.ownsRow 0 e size v n xs := by
  refine ⟨h.1, ?_⟩
  rcases h.2 with ⟨h1, h2⟩ | ⟨g, cap, cur, hv, h0, hh, h3⟩
  · exact .inl ⟨h1, h2⟩
  · exact .inr ⟨g, cap, cur, hv, h0, by rw [hb g (by rw [hv]; rfl)]; exact hh, h3⟩
/-- A row of slices, none of whose blocks is in Q. -/
structure RowsIn (w : World) (Q : Nat → Prop) (v : Value) (vs : List Value) (ls : List (List Int)) : Prop where
  own : w.ownsRow 0 25 1 v vs.length vs
  len : vs.length = ls.length
  nq : ∀ g, v.ownBlock = some g → ¬ Q g
  each : ∀ (i : Nat) (l : List Int), ls[i]? = some l → ∃ a n c, vs[i]? = some (.slice a n c) ∧ RdAt .u8 w a n c l ∧ ∀ x, a = some x → 0 < n → ¬ Q x.block ∧ some x.block ≠ v.ownBlock
theorem RowsIn.nil (w : World) (Q : Nat → Prop) : RowsIn w Q (.slice none 0 0) [] [] := ⟨⟨rfl, .inl ⟨rfl, rfl⟩⟩, rfl, fun g h => (by simp [Value.ownBlock] at h), fun i l h => by simp at h⟩
theorem RowsIn.shape {w : World} {Q : Nat → Prop} {v : Value} {vs : List Value} {ls : List (List Int)} (h : RowsIn w Q v vs ls) : ∃ a c, v = .slice a vs.length c := by
  rcases h.own.2 with ⟨hv, hn⟩ | ⟨g, cap, cur, hv, _⟩
  · exact ⟨none, 0, by rw [hv, hn]⟩
  · exact ⟨_, _, hv⟩
theorem rd_keepR {kd : IntKind} {w w' : World} {a : Option Addr} {n c : Nat} {l : List Int} (h : RdAt kd w a n c l) (hb : ∀ x, a = some x → 0 < n → w'.heap[x.block]? = w.heap[x.block]?) : RdAt kd w' a n c l :=
  ⟨h.len, h.cap, h.max, fun i hi => by
    obtain ⟨b, o, e, hc⟩ := h.cell i hi
    exact ⟨b, o, e, by rw [← hc]; exact World.cell?_of_block (a := ⟨b, o + i, none⟩) (hb ⟨b, o, none⟩ e (by omega))⟩, h.wf, h.void⟩
theorem rd_ltR {kd : IntKind} {w : World} {a : Option Addr} {n c : Nat} {l : List Int} (h : RdAt kd w a n c l) : ∀ x, a = some x → 0 < n → x.block < w.heap.size := fun x hx hn => by
  obtain ⟨b, o, e, hc⟩ := h.cell 0 hn
  rw [hx] at e
  injection e with e
  subst e
  exact block_lt_of_cell hc
theorem RowsIn.tn {w w' : World} {Q Q0 : Nat → Prop} {v : Value} {vs : List Value} {ls : List (List Int)} (h : RowsIn w Q v vs ls) (t : Tn Q0 w w') (hq : ∀ k, Q0 k → Q k) : RowsIn w' Q v vs ls := by
  have hlt := fun g hg => (h.own.lt g hg).2
  refine ⟨ownsRow_at h.own (fun g hg => t.block g (hlt g hg) (fun e => h.nq g hg (hq _ e))), h.len, h.nq, fun i l hl => ?_⟩
  obtain ⟨a, n, c, h1, h2, h3⟩ := h.each i l hl
  exact ⟨a, n, c, h1, rd_keepR h2 (fun x hx hn => t.block x.block (rd_ltR h2 x hx hn) (fun e => (h3 x hx hn).1 (hq _ e))), h3⟩
theorem RowsIn.below {w w' : World} {Q : Nat → Prop} {v : Value} {vs : List Value} {ls : List (List Int)} (h : RowsIn w Q v vs ls) (b : Below w.heap.size w w') : RowsIn w' Q v vs ls := h.tn (Tn.of (Q := fun _ => False) b) (fun _ h => h.elim)
theorem RowsIn.cell {w : World} {Q : Nat → Prop} {v : Value} {vs : List Value} {ls : List (List Int)} (h : RowsIn w Q v vs ls) (i : Nat) (l : List Int) (hi : ls[i]? = some l) : ∃ g cap a n c, v = .slice (some ⟨g, 0, none⟩) vs.length cap ∧ vs.length ≤ cap ∧ i < vs.length ∧ w.cell? ⟨g, i, none⟩ = some (.slice a n c) ∧ RdAt .u8 w a n c l := by
  have hlt : i < vs.length := by rw [h.len]; exact (List.getElem?_eq_some_iff.1 hi).1
  rcases h.own.2 with ⟨hv, hn⟩ | ⟨g, cap, cur, hv, h0, hh, h1, h2, h3, h4⟩
  · omega
  · obtain ⟨a', n', c', e1, e2, e3⟩ := h.each i l hi
    subst hv
    refine ⟨g, cap, a', n', c', rfl, h1, hlt, ?_, e2⟩
    rw [← e1]
    exact h.own.cellAt i (by omega)
theorem RowsIn.push {w w' : World} {Q : Nat → Prop} {v v' : Value} {vs : List Value} {ls : List (List Int)} (h : RowsIn w Q v vs ls) {a : Option Addr} {n c : Nat} {l : List Int} (hr : RdAt .u8 w a n c l) (hq : ∀ x, a = some x → 0 < n → ¬ Q x.block ∧ some x.block ≠ v.ownBlock)
    (hQ : ∀ k, Q k → k < w.heap.size) (ho : w'.ownsRow 0 25 1 v' (vs.length + 1) (vs ++ [.slice a n c])) (hg : w.grownBy w' v.ownBlock) (hb : v'.ownBlock = v.ownBlock ∨ ∀ g, v'.ownBlock = some g → w.heap.size ≤ g) : RowsIn w' Q v' (vs ++ [.slice a n c]) (ls ++ [l]) := by
  have hne : ∀ k, k < w.heap.size → some k ≠ v.ownBlock → some k ≠ v'.ownBlock := fun k h1 h2 h3 => by
    rcases hb with h4 | h4
    · exact h2 (h3.trans h4)
    · have := h4 k h3.symm; omega
  have hgb : ∀ (a : Option Addr) (n c : Nat) (l : List Int), RdAt .u8 w a n c l → (∀ x, a = some x → 0 < n → ¬ Q x.block ∧ some x.block ≠ v.ownBlock) → RdAt .u8 w' a n c l ∧ ∀ x, a = some x → 0 < n → ¬ Q x.block ∧ some x.block ≠ v'.ownBlock := fun a n c l h1 h2 =>
    ⟨rd_keepR h1 (fun x hx hn => hg.block x.block (rd_ltR h1 x hx hn) (h2 x hx hn).2), fun x hx hn => ⟨(h2 x hx hn).1, hne _ (rd_ltR h1 x hx hn) (h2 x hx hn).2⟩⟩
  refine ⟨by simpa using ho, by simp [h.len], fun g hg' => ?_, fun i l' hl => ?_⟩
  · rcases hb with h4 | h4
    · exact h.nq g (by rw [← h4]; exact hg')
    · intro h5
      have := h4 g hg'
      have := hQ g h5
      omega
  · by_cases e : i < ls.length
    · rw [List.getElem?_append_left e] at hl
      obtain ⟨a', n', c', h1, h2, h3⟩ := h.each i l' hl
      obtain ⟨h4, h5⟩ := hgb a' n' c' l' h2 h3
      exact ⟨a', n', c', by rw [List.getElem?_append_left (by rw [h.len]; exact e)]; exact h1, h4, h5⟩
    · have hi : i = ls.length := by
        have := (List.getElem?_eq_some_iff.1 hl).1
        simp at this
        omega
      subst hi
      simp at hl
      subst hl
      obtain ⟨h4, h5⟩ := hgb a n c l hr hq
      exact ⟨a, n, c, by rw [← h.len]; simp, h4, h5⟩
section
variable {ops : Array Oper} {rest : List Oper} {o : Oper} {act : Act} {E : Exit → Act → World → Prop}
set_option maxRecDepth 100000 in
/-- append(rows, b): one more. -/
theorem rowsin_one (hg : o.guard = none) (s x : Operand) (ho : o.op = .call { callee := .builtin .append, args := #[s, x], argTypes := #[47, 47] }) (w : World) (Q : Nat → Prop) (v : Value) (vs : List Value) (ls : List (List Int))
    (hs : act.eval s = v) (h : RowsIn w Q v vs ls) (a : Option Addr) (n c : Nat) (l : List Int) (hr : RdAt .u8 w a n c l) (hq : ∀ x, a = some x → 0 < n → ¬ Q x.block ∧ some x.block ≠ v.ownBlock) (hQ : ∀ k, Q k → k < w.heap.size) (hx : act.eval x = .slice (some ⟨w.heap.size, 0, none⟩) 1 1) (hlen : vs.length ≤ 1000000)
    (hK : ∀ v' w', RowsIn w' Q v' (vs ++ [.slice a n c]) (ls ++ [l]) → w.grownBy w' v.ownBlock → (v'.ownBlock = v.ownBlock ∨ ∀ g, v'.ownBlock = some g → w.heap.size ≤ g) → wpList Try.prog ops E rest (act.put o.dst v') w') :
    wpList Try.prog ops E (o :: rest) act (w.alloc (.cells #[.slice a n c] 25)) := by
  obtain ⟨i, hi, hz0, hz1, hz2⟩ := info_parts rowIR
  have hba : Below w.heap.size w (w.alloc (.cells #[.slice a n c] 25)) := (Below.refl _ _).alloc (Nat.le_refl _) _
  refine wpList_append_own_at _ hg s x _ ho 0 25 i (.slice none 0 0) 1 24 rowTR hi hz0 hz1 hz2 rfl (by decide) v vs.length vs hs (h.own.alloc _) ⟨w.heap.size, 0, none⟩ 1 1 [.slice a n c] hx rfl ?_ ?_ ?_ ?_ ?_ ?_
  · intro j u hj
    cases j with
    | zero =>
      simp at hj
      subst hj
      simp [Addr.add]
    | succ j => simp at hj
  · intro u hu
    simp at hu
    subst hu
    rfl
  · unfold maxLen; omega
  · omega
  · omega
  · intro v' w' h1 h2 _ h4
    have hsz : (w.alloc (.cells #[.slice a n c] 25)).heap.size = w.heap.size + 1 := by simp
    have h5 : w.grownBy w' v.ownBlock := ⟨h2.os.trans hba.os, h2.tape.trans hba.tape, h2.output.trans hba.output, Nat.le_trans hba.size h2.size, fun k hk hne => (h2.block k (Nat.lt_of_lt_of_le hk hba.size) hne).trans (hba.block k hk)⟩
    have h7 : v'.ownBlock = v.ownBlock ∨ ∀ g, v'.ownBlock = some g → w.heap.size ≤ g := h4.imp id fun h6 g hg' => by
      rw [h6] at hg'
      injection hg' with hg'
      omega
    exact hK v' w' (h.push hr hq hQ h1 h5 h7) h5 h7
end
end Go.Proofs.Ytnbjodoajfkekaa

namespace Go.Proofs.Ytnbjodoajfkekaa
open Go.RowKit
set_option linter.unusedSimpArgs false
theorem owns_tn {k : IntKind} {e : TypeId} {w w' : World} {base : Nat} {v : Value} {l : List Int} {Q : Nat → Prop} (h : Owns k e w base v l) (t : Tn Q w w') (hq : ∀ j, Q j → j < base) : Owns k e w' base v l := by
  obtain ⟨hw, h⟩ := h
  rcases h with h | ⟨h1, h2 | ⟨g, cap, cur, hv, hb, hh, hr⟩⟩
  · exact ⟨hw, .inl h⟩
  · exact ⟨hw, .inr ⟨h1, .inl h2⟩⟩
  · exact ⟨hw, .inr ⟨h1, .inr ⟨g, cap, cur, hv, hb, row_tn hh t (fun e => by have := hq _ e; omega), hr⟩⟩⟩
theorem OpsAt.below {w w' : World} {a : Option Addr} {n : Nat} {L : List OpP} (h : OpsAt w a n L) (hb : Below w.heap.size w w') : OpsAt w' a n L :=
  ⟨h.len, fun i A hA => by
    obtain ⟨b, o, e, ho⟩ := h.at_ i A hA
    obtain ⟨a5, n5, c5, y0, y1, y2, y3, y4, y5, hr⟩ := ho.ex
    have hc : ∀ {j v}, w.cell? ⟨b, j, none⟩ = some v → w'.cell? ⟨b, j, none⟩ = some v := fun {j v} e => (Below.cell hb (block_lt_of_cell e)).trans e
    exact ⟨b, o, e, ⟨a5, n5, c5, hc y0, hc y1, hc y2, hc y3, hc y4, hc y5, hr.below hb⟩, ho.wf⟩⟩
theorem ops_one {w : World} {b : Nat} {T : OpP} {ta : Option Addr} {tn tc : Nat} (h : w.heap[b]? = some (.cells #[.int .i64 T.kind, .int .i64 T.pid, .int .i64 T.at_, .int .i64 T.n, .int .i64 T.prot, .slice ta tn tc] 27 (0, 0))) (hr : RdAt .u8 w ta tn tc T.data) (hw : (Lit.int .i64 T.kind).wf = true ∧ (Lit.int .i64 T.pid).wf = true ∧ (Lit.int .i64 T.at_).wf = true ∧ (Lit.int .i64 T.n).wf = true ∧ (Lit.int .i64 T.prot).wf = true) : OpsAt w (some ⟨b, 0, none⟩) 1 [T] := by
  refine ⟨rfl, fun i A hA => ⟨b, 0, rfl, ?_⟩⟩
  have hi : i = 0 := by have := (List.getElem?_eq_some_iff.1 hA).1; simp at this; omega
  subst hi
  injection hA with hA
  subst hA
  obtain ⟨y0, y1, y2, y3, y4, y5⟩ := cells6 h
  exact ⟨⟨ta, tn, tc, y0, y1, y2, y3, y4, y5, hr⟩, hw⟩
theorem few_len {L : List OpP} (h : fewB L = true) : L.length ≤ 1000 := by
  unfold fewB at h
  simp at h
  omega
theorem stepM_c (st : Mc) (o : Opn) : (stepM st o).c = st.c := by
  unfold stepM
  split
  · rfl
  · repeat' split
    all_goals rfl
theorem runM_c (st : Mc) : ∀ (L : List OpP), (runM st L).c = st.c := by
  intro L
  induction L generalizing st with
  | nil => rfl
  | cons A r ih => exact (ih (stepM st A.o)).trans (stepM_c st A.o)
end Go.Proofs.Ytnbjodoajfkekaa

namespace Go.Proofs.Ytnbjodoajfkekaa
open Go.RowKit
set_option linter.unusedSimpArgs false
theorem str_iff {a b : List Int} (ha : Bytes a) (hb : Bytes b) : ((strOfNums a).toList == (strOfNums b).toList) = decide (a = b) := by
  by_cases h : a = b
  · subst h; simp
  · rw [decide_eq_false h, beq_eq_false_iff_ne]
    exact fun e => h (str_inj ha hb e)
set_option maxRecDepth 100000 in
theorem bytesEq_any (a : Option Addr) (n c : Nat) (x : List Int) (a' : Option Addr) (n' c' : Nat) (y : List Int) (w : World) (h : RdAt .u8 w a n c x) (h' : RdAt .u8 w a' n' c' y) :
    Calls Try.prog 46 #[.slice a n c, .slice a' n' c'] w fun e w' => e = .returned (.bool (decide (x = y))) ∧ w = w' := by
  have k1 := conv_rd (P := Try.prog) u8T s8 su h
  have k2 := conv_rd (P := Try.prog) u8T s8 su h'
  have HI := Lib.hid (str_iff h.bytes h'.bytes)
  go_enter Try.func46, Try.ntmps46
  go_wp2
  go_ret
  exact ⟨by rw [HI.out]; rfl, rfl⟩
instance : DecidableEq Rg := fun a b => decidable_of_iff (a.lo = b.lo ∧ a.hi = b.hi ∧ a.p = b.p) ⟨fun h => by cases a; cases b; simp only at h; rw [h.1, h.2.1, h.2.2], fun h => by rw [h]; exact ⟨rfl, rfl, rfl⟩⟩
set_option maxHeartbeats 1000000 in
set_option maxRecDepth 100000 in
theorem equalI_any (a : Option Addr) (n c : Nat) (l : List Int) (a' : Option Addr) (n' c' : Nat) (l' : List Int) (w : World) (h : RdAt .i64 w a n c l) (h' : RdAt .i64 w a' n' c' l') (hm : n ≤ 1000000 ∧ n' ≤ 1000000) :
    Calls Try.prog 44 #[.slice a n c, .slice a' n' c'] w fun e w' => e = .returned (.bool (decide (l = l'))) ∧ Below w.heap.size w w' := by
  have H := Lib.hid h
  have H' := Lib.hid h'
  have HLN : Hid (l.length = n) := h.len
  have HLN' : Hid (l'.length = n') := h'.len
  obtain ⟨hm1, hm2⟩ := hm
  clear h h'
  by_cases hn : n = n'
  · subst hn
    obtain ⟨D, hD⟩ : ∃ D : Bool, decide (l = l') = D := ⟨_, rfl⟩
    rw [hD]
    have HD := Lib.hid hD
    clear hD
    go_enter Try.func44, Try.ntmps44
    go_wp2_with fail
    go_loopw [13] (fun i wr => ∃ (k : Nat), k ≤ n ∧ i = .int .i64 k ∧ Hid (Below w.heap.size w wr) ∧ Hid (l.take k = l'.take k)) (fun i _ => n - (intOf i).toNat)
    case atStart => exact ⟨0, by omega, rfl, Below.refl _ _, rfl⟩
    case round =>
      obtain ⟨k, hk, rfl, HB, HT⟩ := hrel
      by_cases hkn : k < n
      · obtain ⟨b, o, rfl, hc⟩ := (H.out.below HB.out).cell k hkn
        obtain ⟨b', o', rfl, hc'⟩ := (H'.out.below HB.out).cell k hkn
        obtain ⟨x, hx⟩ : ∃ x, nth l k = x := ⟨_, rfl⟩
        obtain ⟨y, hy⟩ : ∃ y, nth l' k = y := ⟨_, rfl⟩
        rw [hx] at hc
        rw [hy] at hc'
        have HX := Lib.hid hx
        have HY := Lib.hid hy
        clear hx hy
        by_cases hxy : x = y
        · subst hxy
          have HT2 : Hid (l.take (k + 1) = l'.take (k + 1)) := by
            show _ = _
            have h1 := HLN.out
            have h2 := HLN'.out
            rw [List.take_add_one, List.take_add_one, HT.out, List.getElem?_eq_getElem (by omega), List.getElem?_eq_getElem (by omega), ← nth_eq (by omega), ← nth_eq (by omega), HX.out, HY.out]
          go_wp2_with fail
          go_quiet (fail)
          go_wp2_with fail
          go_roundw
          case rel => exact ⟨k + 1, by omega, by go_num, ⟨HB.out.os, HB.out.tape, HB.out.output, HB.out.size, HB.out.block⟩, HT2⟩
          case measure => simp [intOf] <;> omega
        · have hxy2 : (x == y) = false := by simpa using hxy
          have hxy3 : (x != y) = true := by simpa using hxy
          have HF : Hid (D = false) := by
            show _ = _
            rw [← HD.out]
            refine decide_eq_false (fun e => hxy ?_)
            rw [← HX.out, ← HY.out, e]
          clear hxy
          go_wp2_with fail
          go_quiet (fail)
          go_wp2_with fail
          go_ret
          rw [HF.out]
          exact ⟨rfl, ⟨HB.out.os, HB.out.tape, HB.out.output, HB.out.size, HB.out.block⟩⟩
      · obtain rfl : k = n := by omega
        have HF : Hid (D = true) := by
          show _ = _
          rw [← HD.out]
          refine decide_eq_true ?_
          have h1 := HT.out
          rwa [List.take_of_length_le (by rw [HLN.out]; omega), List.take_of_length_le (by rw [HLN'.out]; omega)] at h1
        go_wp2_with fail
        go_ret
        rw [HF.out]
        exact ⟨rfl, HB.out⟩
  · have hD : decide (l = l') = false := decide_eq_false (fun e => hn (by rw [← HLN.out, ← HLN'.out, e]))
    have hn2 : (n == n') = false := by simpa using hn
    have hn3 : ((n : Int) == (n' : Int)) = false := by simp; omega
    have hn4 : ((n : Int) != (n' : Int)) = true := by simp; omega
    rw [hD]
    clear hD hn
    go_enter Try.func44, Try.ntmps44
    go_wp2_with fail
    go_ret
    exact ⟨rfl, Below.refl _ _⟩
set_option maxHeartbeats 1000000 in
set_option maxRecDepth 100000 in
theorem equalR_any (a : Option Addr) (n c : Nat) (l : List Rg) (a' : Option Addr) (n' c' : Nat) (l' : List Rg) (w : World) (h : RdS Rg.cells 3 w a n c l) (h' : RdS Rg.cells 3 w a' n' c' l') (hm : n ≤ 1000000 ∧ n' ≤ 1000000) :
    Calls Try.prog 45 #[.slice a n c, .slice a' n' c'] w fun e w' => e = .returned (.bool (decide (l = l'))) ∧ Below w.heap.size w w' := by
  have H := Lib.hid h
  have H' := Lib.hid h'
  have HLN : Hid (l.length = n) := h.len
  have HLN' : Hid (l'.length = n') := h'.len
  obtain ⟨hm1, hm2⟩ := hm
  clear h h'
  by_cases hn : n = n'
  · subst hn
    obtain ⟨D, hD⟩ : ∃ D : Bool, decide (l = l') = D := ⟨_, rfl⟩
    rw [hD]
    have HD := Lib.hid hD
    clear hD
    go_enter Try.func45, Try.ntmps45
    go_wp2_with fail
    go_loopw [13] (fun i wr => ∃ (k : Nat), k ≤ n ∧ i = .int .i64 k ∧ Hid (Below w.heap.size w wr) ∧ Hid (l.take k = l'.take k)) (fun i _ => n - (intOf i).toNat)
    case atStart => exact ⟨0, by omega, rfl, Below.refl _ _, rfl⟩
    case round =>
      obtain ⟨k, hk, rfl, HB, HT⟩ := hrel
      by_cases hkn : k < n
      · obtain ⟨x, HX⟩ : ∃ x, Hid (l[k]? = some x) := ⟨l[k]'(by have := HLN.out; omega), List.getElem?_eq_getElem (by have := HLN.out; omega)⟩
        obtain ⟨y, HY⟩ : ∃ y, Hid (l'[k]? = some y) := ⟨l'[k]'(by have := HLN'.out; omega), List.getElem?_eq_getElem (by have := HLN'.out; omega)⟩
        obtain ⟨g, o, rfl, c0, c1, c2⟩ := (H.out.below HB.out).three k x HX.out
        obtain ⟨g', o', rfl, d0, d1, d2⟩ := (H'.out.below HB.out).three k y HY.out
        obtain ⟨rlo, rhi, rp⟩ := x
        obtain ⟨slo, shi, sp⟩ := y
        replace c0 : wr.cell? ⟨g, o + k * 3, none⟩ = some (.int .i64 rlo) := c0
        replace c1 : wr.cell? ⟨g, o + k * 3 + 1, none⟩ = some (.int .i64 rhi) := c1
        replace c2 : wr.cell? ⟨g, o + k * 3 + 2, none⟩ = some (.int .i64 rp) := c2
        replace d0 : wr.cell? ⟨g', o' + k * 3, none⟩ = some (.int .i64 slo) := d0
        replace d1 : wr.cell? ⟨g', o' + k * 3 + 1, none⟩ = some (.int .i64 shi) := d1
        replace d2 : wr.cell? ⟨g', o' + k * 3 + 2, none⟩ = some (.int .i64 sp) := d2
        by_cases hxy : rlo = slo ∧ rhi = shi ∧ rp = sp
        · obtain ⟨rfl, rfl, rfl⟩ := hxy
          have HT2 : Hid (l.take (k + 1) = l'.take (k + 1)) := by
            show _ = _
            rw [List.take_add_one, List.take_add_one, HT.out, HX.out, HY.out]
          go_wp2_with fail
          go_quiet (fail)
          go_wp2_with fail
          go_roundw
          case rel => exact ⟨k + 1, by omega, by go_num, ⟨HB.out.os, HB.out.tape, HB.out.output, HB.out.size, HB.out.block⟩, HT2⟩
          case measure => simp [intOf] <;> omega
        · have HF : Hid (D = false) := by
            show _ = _
            rw [← HD.out]
            refine decide_eq_false (fun e => hxy ?_)
            have h1 := HX.out
            rw [e, HY.out] at h1
            injection h1 with h1
            injection h1 with e1 e2 e3
            exact ⟨e1.symm, e2.symm, e3.symm⟩
          by_cases e1 : rlo = slo
          · subst e1
            by_cases e2 : rhi = shi
            · subst e2
              have q3 : (rp == sp) = false := by simpa using fun e => hxy ⟨rfl, rfl, e⟩
              clear hxy
              go_wp2_with fail
              go_quiet (fail)
              go_wp2_with fail
              go_ret
              rw [HF.out]
              exact ⟨rfl, ⟨HB.out.os, HB.out.tape, HB.out.output, HB.out.size, HB.out.block⟩⟩
            · have q2 : (rhi == shi) = false := by simpa using e2
              clear hxy e2
              go_wp2_with fail
              go_quiet (fail)
              go_wp2_with fail
              go_ret
              rw [HF.out]
              exact ⟨rfl, ⟨HB.out.os, HB.out.tape, HB.out.output, HB.out.size, HB.out.block⟩⟩
          · have q1 : (rlo == slo) = false := by simpa using e1
            clear hxy e1
            go_wp2_with fail
            go_quiet (fail)
            go_wp2_with fail
            go_ret
            rw [HF.out]
            exact ⟨rfl, ⟨HB.out.os, HB.out.tape, HB.out.output, HB.out.size, HB.out.block⟩⟩
      · obtain rfl : k = n := by omega
        have HF : Hid (D = true) := by
          show _ = _
          rw [← HD.out]
          refine decide_eq_true ?_
          have h1 := HT.out
          rwa [List.take_of_length_le (by rw [HLN.out]; omega), List.take_of_length_le (by rw [HLN'.out]; omega)] at h1
        go_wp2_with fail
        go_ret
        rw [HF.out]
        exact ⟨rfl, HB.out⟩
  · have hD : decide (l = l') = false := decide_eq_false (fun e => hn (by rw [← HLN.out, ← HLN'.out, e]))
    have hn2 : (n == n') = false := by simpa using hn
    have hn3 : ((n : Int) == (n' : Int)) = false := by simp; omega
    have hn4 : ((n : Int) != (n' : Int)) = true := by simp; omega
    rw [hD]
    clear hD hn
    go_enter Try.func45, Try.ntmps45
    go_wp2_with fail
    go_ret
    exact ⟨rfl, Below.refl _ _⟩
set_option maxHeartbeats 1000000 in
set_option maxRecDepth 100000 in
theorem intsEq_any (a : Option Addr) (n c : Nat) (l : List Int) (a' : Option Addr) (n' c' : Nat) (l' : List Int) (w : World) (h : RdAt .i64 w a n c l) (h' : RdAt .i64 w a' n' c' l') (hm : n ≤ 1000000 ∧ n' ≤ 1000000) :
    Calls Try.prog 16 #[.slice a n c, .slice a' n' c'] w fun e w' => e = .returned (.bool (decide (l = l'))) ∧ Below w.heap.size w w' := by
  have H := Lib.hid h
  have H' := Lib.hid h'
  have HLN : Hid (l.length = n) := h.len
  have HLN' : Hid (l'.length = n') := h'.len
  obtain ⟨hm1, hm2⟩ := hm
  clear h h'
  by_cases hn : n = n'
  · subst hn
    obtain ⟨D, hD⟩ : ∃ D : Bool, decide (l = l') = D := ⟨_, rfl⟩
    rw [hD]
    have HD := Lib.hid hD
    clear hD
    go_enter Try.func16, Try.ntmps16
    go_wp2_with fail
    go_loopw [5] (fun i wr => ∃ (k : Nat), k ≤ n ∧ i = .int .i64 k ∧ Hid (Below w.heap.size w wr) ∧ Hid (l.take k = l'.take k)) (fun i _ => n - (intOf i).toNat)
    case atStart => exact ⟨0, by omega, rfl, Below.refl _ _, rfl⟩
    case round =>
      obtain ⟨k, hk, rfl, HB, HT⟩ := hrel
      by_cases hkn : k < n
      · obtain ⟨b, o, rfl, hc⟩ := (H.out.below HB.out).cell k hkn
        obtain ⟨b', o', rfl, hc'⟩ := (H'.out.below HB.out).cell k hkn
        obtain ⟨x, hx⟩ : ∃ x, nth l k = x := ⟨_, rfl⟩
        obtain ⟨y, hy⟩ : ∃ y, nth l' k = y := ⟨_, rfl⟩
        rw [hx] at hc
        rw [hy] at hc'
        have HX := Lib.hid hx
        have HY := Lib.hid hy
        clear hx hy
        by_cases hxy : x = y
        · subst hxy
          have HT2 : Hid (l.take (k + 1) = l'.take (k + 1)) := by
            show _ = _
            have h1 := HLN.out
            have h2 := HLN'.out
            rw [List.take_add_one, List.take_add_one, HT.out, List.getElem?_eq_getElem (by omega), List.getElem?_eq_getElem (by omega), ← nth_eq (by omega), ← nth_eq (by omega), HX.out, HY.out]
          go_wp2_with fail
          go_quiet (fail)
          go_wp2_with fail
          go_roundw
          case rel => exact ⟨k + 1, by omega, by go_num, ⟨HB.out.os, HB.out.tape, HB.out.output, HB.out.size, HB.out.block⟩, HT2⟩
          case measure => simp [intOf] <;> omega
        · have hxy2 : (x == y) = false := by simpa using hxy
          have hxy3 : (x != y) = true := by simpa using hxy
          have HF : Hid (D = false) := by
            show _ = _
            rw [← HD.out]
            refine decide_eq_false (fun e => hxy ?_)
            rw [← HX.out, ← HY.out, e]
          clear hxy
          go_wp2_with fail
          go_quiet (fail)
          go_wp2_with fail
          go_ret
          rw [HF.out]
          exact ⟨rfl, ⟨HB.out.os, HB.out.tape, HB.out.output, HB.out.size, HB.out.block⟩⟩
      · obtain rfl : k = n := by omega
        have HF : Hid (D = true) := by
          show _ = _
          rw [← HD.out]
          refine decide_eq_true ?_
          have h1 := HT.out
          rwa [List.take_of_length_le (by rw [HLN.out]; omega), List.take_of_length_le (by rw [HLN'.out]; omega)] at h1
        go_wp2_with fail
        go_ret
        rw [HF.out]
        exact ⟨rfl, HB.out⟩
  · have hD : decide (l = l') = false := decide_eq_false (fun e => hn (by rw [← HLN.out, ← HLN'.out, e]))
    have hn2 : (n == n') = false := by simpa using hn
    have hn3 : ((n : Int) == (n' : Int)) = false := by simp; omega
    have hn4 : ((n : Int) != (n' : Int)) = true := by simp; omega
    rw [hD]
    clear hD hn
    go_enter Try.func16, Try.ntmps16
    go_wp2_with fail
    go_ret
    exact ⟨rfl, Below.refl _ _⟩
set_option maxHeartbeats 1000000 in
set_option maxRecDepth 100000 in
theorem regsEq_any (a : Option Addr) (n c : Nat) (l : List Rg) (a' : Option Addr) (n' c' : Nat) (l' : List Rg) (w : World) (h : RdS Rg.cells 3 w a n c l) (h' : RdS Rg.cells 3 w a' n' c' l') (hm : n ≤ 1000000 ∧ n' ≤ 1000000) :
    Calls Try.prog 15 #[.slice a n c, .slice a' n' c'] w fun e w' => e = .returned (.bool (decide (l = l'))) ∧ Below w.heap.size w w' := by
  have H := Lib.hid h
  have H' := Lib.hid h'
  have HLN : Hid (l.length = n) := h.len
  have HLN' : Hid (l'.length = n') := h'.len
  obtain ⟨hm1, hm2⟩ := hm
  clear h h'
  by_cases hn : n = n'
  · subst hn
    obtain ⟨D, hD⟩ : ∃ D : Bool, decide (l = l') = D := ⟨_, rfl⟩
    rw [hD]
    have HD := Lib.hid hD
    clear hD
    go_enter Try.func15, Try.ntmps15
    go_wp2_with fail
    go_loopw [5] (fun i wr => ∃ (k : Nat), k ≤ n ∧ i = .int .i64 k ∧ Hid (Below w.heap.size w wr) ∧ Hid (l.take k = l'.take k)) (fun i _ => n - (intOf i).toNat)
    case atStart => exact ⟨0, by omega, rfl, Below.refl _ _, rfl⟩
    case round =>
      obtain ⟨k, hk, rfl, HB, HT⟩ := hrel
      by_cases hkn : k < n
      · obtain ⟨x, HX⟩ : ∃ x, Hid (l[k]? = some x) := ⟨l[k]'(by have := HLN.out; omega), List.getElem?_eq_getElem (by have := HLN.out; omega)⟩
        obtain ⟨y, HY⟩ : ∃ y, Hid (l'[k]? = some y) := ⟨l'[k]'(by have := HLN'.out; omega), List.getElem?_eq_getElem (by have := HLN'.out; omega)⟩
        obtain ⟨g, o, rfl, c0, c1, c2⟩ := (H.out.below HB.out).three k x HX.out
        obtain ⟨g', o', rfl, d0, d1, d2⟩ := (H'.out.below HB.out).three k y HY.out
        obtain ⟨rlo, rhi, rp⟩ := x
        obtain ⟨slo, shi, sp⟩ := y
        replace c0 : wr.cell? ⟨g, o + k * 3, none⟩ = some (.int .i64 rlo) := c0
        replace c1 : wr.cell? ⟨g, o + k * 3 + 1, none⟩ = some (.int .i64 rhi) := c1
        replace c2 : wr.cell? ⟨g, o + k * 3 + 2, none⟩ = some (.int .i64 rp) := c2
        replace d0 : wr.cell? ⟨g', o' + k * 3, none⟩ = some (.int .i64 slo) := d0
        replace d1 : wr.cell? ⟨g', o' + k * 3 + 1, none⟩ = some (.int .i64 shi) := d1
        replace d2 : wr.cell? ⟨g', o' + k * 3 + 2, none⟩ = some (.int .i64 sp) := d2
        by_cases hxy : rlo = slo ∧ rhi = shi ∧ rp = sp
        · obtain ⟨rfl, rfl, rfl⟩ := hxy
          have HT2 : Hid (l.take (k + 1) = l'.take (k + 1)) := by
            show _ = _
            rw [List.take_add_one, List.take_add_one, HT.out, HX.out, HY.out]
          go_wp2_with fail
          go_quiet (fail)
          go_wp2_with fail
          go_roundw
          case rel => exact ⟨k + 1, by omega, by go_num, ⟨HB.out.os, HB.out.tape, HB.out.output, HB.out.size, HB.out.block⟩, HT2⟩
          case measure => simp [intOf] <;> omega
        · have HF : Hid (D = false) := by
            show _ = _
            rw [← HD.out]
            refine decide_eq_false (fun e => hxy ?_)
            have h1 := HX.out
            rw [e, HY.out] at h1
            injection h1 with h1
            injection h1 with e1 e2 e3
            exact ⟨e1.symm, e2.symm, e3.symm⟩
          by_cases e1 : rlo = slo
          · subst e1
            by_cases e2 : rhi = shi
            · subst e2
              have q3 : (rp == sp) = false := by simpa using fun e => hxy ⟨rfl, rfl, e⟩
              clear hxy
              go_wp2_with fail
              go_quiet (fail)
              go_wp2_with fail
              go_ret
              rw [HF.out]
              exact ⟨rfl, ⟨HB.out.os, HB.out.tape, HB.out.output, HB.out.size, HB.out.block⟩⟩
            · have q2 : (rhi == shi) = false := by simpa using e2
              clear hxy e2
              go_wp2_with fail
              go_quiet (fail)
              go_wp2_with fail
              go_ret
              rw [HF.out]
              exact ⟨rfl, ⟨HB.out.os, HB.out.tape, HB.out.output, HB.out.size, HB.out.block⟩⟩
          · have q1 : (rlo == slo) = false := by simpa using e1
            clear hxy e1
            go_wp2_with fail
            go_quiet (fail)
            go_wp2_with fail
            go_ret
            rw [HF.out]
            exact ⟨rfl, ⟨HB.out.os, HB.out.tape, HB.out.output, HB.out.size, HB.out.block⟩⟩
      · obtain rfl : k = n := by omega
        have HF : Hid (D = true) := by
          show _ = _
          rw [← HD.out]
          refine decide_eq_true ?_
          have h1 := HT.out
          rwa [List.take_of_length_le (by rw [HLN.out]; omega), List.take_of_length_le (by rw [HLN'.out]; omega)] at h1
        go_wp2_with fail
        go_ret
        rw [HF.out]
        exact ⟨rfl, HB.out⟩
  · have hD : decide (l = l') = false := decide_eq_false (fun e => hn (by rw [← HLN.out, ← HLN'.out, e]))
    have hn2 : (n == n') = false := by simpa using hn
    have hn3 : ((n : Int) == (n' : Int)) = false := by simp; omega
    have hn4 : ((n : Int) != (n' : Int)) = true := by simp; omega
    rw [hD]
    clear hD hn
    go_enter Try.func15, Try.ntmps15
    go_wp2_with fail
    go_ret
    exact ⟨rfl, Below.refl _ _⟩
end Go.Proofs.Ytnbjodoajfkekaa

namespace Go.Proofs.Ytnbjodoajfkekaa
open Go.RowKit
set_option linter.unusedSimpArgs false
def fU (M : List (Int × List Int)) (x : Int × List Int) : Bool := !decide (kget M x.1 = some x.2)
def gU (L : List (Int × List Int)) (x : Int × List Int) : Bool := (kget L x.1).isNone
def unlM (L M : List (Int × List Int)) : Nat := (L.filter (fU M)).length + (M.filter (gU L)).length
theorem filter_take {α : Type} (f : α → Bool) (L : List α) (k : Nat) (x : α) (hx : L[k]? = some x) : ((L.take (k + 1)).filter f).length = ((L.take k).filter f).length + (if f x = true then 1 else 0) := by
  rw [List.take_add_one, hx]
  simp only [Option.toList_some, List.filter_append, List.length_append, List.filter_cons, List.filter_nil]
  split <;> rfl
theorem filterK_le {α : Type} (f : α → Bool) (L : List α) (k : Nat) : ((L.take k).filter f).length ≤ k := Nat.le_trans (List.length_filter_le _ _) (by rw [List.length_take]; omega)
section
variable {No : Nat → Prop} {h h2 : McH} {st st2 : Mc} {w : World}
set_option maxRecDepth 100000 in
theorem McIn.lookPB (i : McIn w No h st) (p n : Int) (hp : (Lit.int .i64 p).wf = true) (hn : (Lit.int .i64 n).wf = true) :
    ∃ a m c, (∀ w', Below w.heap.size w w' → (Instr.lookup 62 (.map (some h.pb)) (.agg #[.int .i64 p, .int .i64 n]) true).run Try.prog w' = .ok (.tuple #[.slice a m c, .bool (kget (st.ms p) n).isSome]) w' ∧ (Instr.lookup 62 (.map (some h.pb)) (.agg #[.int .i64 p, .int .i64 n]) false).run Try.prog w' = .ok (.slice a m c) w') ∧ ∀ b, kget (st.ms p) n = some b → RdAt .u8 w a m c b := by
  obtain ⟨D, E, e1, e2, e3, e4⟩ := i.dat
  have hl := fun (w' : World) (b : Below w.heap.size w w') => mg_look2 (e2.at (b.block _ e2.lt)) (p, n) ⟨hp, hn⟩
  have hl1 := fun (w' : World) (b : Below w.heap.size w w') => mg_look (e2.at (b.block _ e2.lt)) (p, n) ⟨hp, hn⟩
  have hs := i.ok.srt p
  cases hk : kget E (p, n) with
  | none =>
    have h0 : kget (st.ms p) n = none := kget_none (fun q hq e => by
      obtain ⟨v, hv⟩ := e4.has p q hq
      exact kget_no hk _ hv (by rw [e]))
    simp only [hk] at hl hl1
    rw [h0]
    exact ⟨none, 0, 0, fun w' b => ⟨hl w' b, hl1 w' b⟩, fun b h => by cases h⟩
  | some v =>
    obtain ⟨b, hb, a, m, c, e, r, hx⟩ := e4.all _ (kget_mem hk)
    have h0 : kget (st.ms p) n = some b := (kget_iff hs).2 hb
    simp only [hk] at hl hl1
    rw [h0]
    simp only at e
    subst e
    exact ⟨a, m, c, fun w' b => ⟨hl w' b, hl1 w' b⟩, fun b' e' => by injection e' with e'; subst e'; exact r⟩
set_option maxHeartbeats 4000000 in
set_option maxRecDepth 100000 in
theorem unlike_any (i : McIn w No h st) (j : McIn w No h2 st2) (p : Int) (hp : (Lit.int .i64 p).wf = true) : Calls Try.prog 48 #[.pointer (some ⟨h.m, 0, none⟩), .pointer (some ⟨h2.m, 0, none⟩), .int .i64 p] w fun e w' => e = .returned (.int .i64 ((unlM (st.ms p) (st2.ms p) : Nat) : Int)) ∧ Below w.heap.size w w' := by
  obtain ⟨_, _, _, _, _, _, c11⟩ := i.cells
  obtain ⟨_, _, _, _, _, _, d11⟩ := j.cells
  have HI := Lib.hid i
  have HJ := Lib.hid j
  have HP := Lib.hid hp
  obtain ⟨LL, hLL⟩ : ∃ x, st.ms p = x := ⟨_, rfl⟩
  obtain ⟨MM, hMM⟩ : ∃ x, st2.ms p = x := ⟨_, rfl⟩
  have hc1 := stored_any i p
  have HLB : Hid (LL.length ≤ 65536) := by rw [← hLL]; exact i.ok.few p
  have HMB : Hid (MM.length ≤ 65536) := by rw [← hMM]; exact j.ok.few p
  have HLS : Hid (SrtP LL) := by rw [← hLL]; exact i.ok.srt p
  rw [hLL] at hc1 ⊢
  rw [hMM]
  have HLL := Lib.hid hLL
  have HMM := Lib.hid hMM
  have HC1 := Lib.hid hc1
  obtain ⟨NL, hNL⟩ : ∃ x, LL.length = x := ⟨_, rfl⟩
  obtain ⟨NM, hNM⟩ : ∃ x, MM.length = x := ⟨_, rfl⟩
  have hnl : NL ≤ 65536 := by rw [← hNL]; exact HLB.out
  have hnm : NM ≤ 65536 := by rw [← hNM]; exact HMB.out
  have HNL := Lib.hid hNL
  have HNM := Lib.hid hNM
  clear i j hp hLL hMM hc1 hNL hNM
  go_enter Try.func48, Try.ntmps48
  go_wp2_with fail
  refine HC1.out.mono ?_
  rintro e w1 ⟨v1, rfl, ho1, hb1⟩
  obtain ⟨a1, cc1, rfl⟩ := ho1.shapeN NL (by rw [List.length_map]; exact HNL.out)
  have HRD1 := Lib.hid ho1.rd
  have HB1 := Lib.hid hb1
  replace c11 := (Below.cell hb1 (block_lt_of_cell c11)).trans c11
  replace d11 := (Below.cell hb1 (block_lt_of_cell d11)).trans d11
  have HI1 := Lib.hid (HI.out.below hb1)
  have HJ1 := Lib.hid (HJ.out.below hb1)
  clear ho1 hb1 HC1
  go_wp2_with fail
  go_loopw [7, 21] (fun cv iv wr => ∃ k : Nat, k ≤ NL ∧ iv = .int .i64 k ∧ cv = .int .i64 ((((LL.take k).filter (fU MM)).length : Nat) : Int) ∧ Hid (Below w1.heap.size w1 wr)) (fun _ iv _ => NL - (intOf iv).toNat)
  case atStart => exact ⟨0, by omega, rfl, by simp, Below.refl _ _⟩
  case round =>
    obtain ⟨wB, hwB⟩ : ∃ x : World, x = w1 := ⟨_, rfl⟩
    subst hwB
    obtain ⟨k, hk, rfl, rfl, HB⟩ := hrel
    by_cases hlt : k < NL
    · have dl : decide ((k : Int) < (NL : Int)) = true := decide_eq_true (by omega)
      obtain ⟨b, o, rfl, hc⟩ := (HRD1.out.below HB.out).cell k hlt
      have hwf := HRD1.out.wfAt k hlt
      obtain ⟨x, HX⟩ : ∃ x, Hid (LL[k]? = some x) := ⟨LL[k]'(by have := HNL.out; omega), List.getElem?_eq_getElem (by have := HNL.out; omega)⟩
      have hnx : nth (LL.map Prod.fst) k = x.1 := by
        have h1 : (LL.map Prod.fst)[k]? = some x.1 := by rw [List.getElem?_map, HX.out]; rfl
        have h2 := (List.getElem?_eq_some_iff.1 h1)
        rw [nth_eq h2.1, h2.2]
      rw [hnx] at hc hwf
      obtain ⟨xn, xb⟩ := x
      replace hc : wr.cell? _ = some (.int .i64 xn) := hc
      replace hwf : (Lit.int .i64 xn).wf = true := hwf
      have HKX : Hid (kget LL xn = some xb) := (kget_iff HLS.out).2 (List.mem_of_getElem? HX.out)
      have hft := filter_take (fU MM) LL k _ HX.out
      have hfl := filterK_le (fU MM) LL k
      obtain ⟨C, hC⟩ : ∃ x, ((LL.take k).filter (fU MM)).length = x := ⟨_, rfl⟩
      rw [hC] at hft hfl ⊢
      have hba := below_a wr (.cells #[.int .i64 p, .int .i64 xn] 89)
      have hrow := heap_alloc_new wr (.cells #[.int .i64 p, .int .i64 xn] 89)
      obtain ⟨W2, hW2⟩ : ∃ x, wr.alloc (.cells #[.int .i64 p, .int .i64 xn] 89) = x := ⟨_, rfl⟩
      obtain ⟨bb, hbb⟩ : ∃ x, wr.heap.size = x := ⟨_, rfl⟩
      rw [hW2] at hba hrow
      rw [hbb] at hrow
      have q0 : W2.cell? ⟨bb, 0, none⟩ = some (.int .i64 p) := cell_of_row W2 bb 0 _ _ _ hrow
      have q1 : W2.cell? ⟨bb, 1, none⟩ = some (.int .i64 xn) := cell_of_row W2 bb 1 _ _ _ hrow
      have hB2 := Below.call HB.out hba
      have HB2 := Lib.hid hB2
      have hi2 := HI1.out.below hB2
      have hj2 := HJ1.out.below hB2
      have C11 := Lib.hid ((Below.cell hB2 (block_lt_of_cell c11)).trans c11)
      have D11 := Lib.hid ((Below.cell hB2 (block_lt_of_cell d11)).trans d11)
      obtain ⟨la, lm, lc, hlk, hlb⟩ := hi2.lookPB p xn HP.out hwf
      obtain ⟨ma, mm, mc, hlk2, hlb2⟩ := hj2.lookPB p xn HP.out hwf
      rw [HLL.out] at hlb hlk
      rw [HMM.out] at hlb2 hlk2
      have HLA := Lib.hid (hlb _ HKX.out)
      have HLK := Lib.hid hlk
      have HLK2 := Lib.hid hlk2
      have HLB2 := Lib.hid hlb2
      have HW2 := Lib.hid hW2
      have HFT := Lib.hid hft
      obtain ⟨OM, hOM⟩ : ∃ x, kget MM xn = x := ⟨_, rfl⟩
      have HOM := Lib.hid hOM
      rw [hOM] at HLK2
      clear hba hrow hW2 hB2 hi2 hj2 hlk hlb hlk2 hlb2 hft hC hOM c11 d11 hnx hwf
      go_wp2_with fail
      rw [HW2.out]
      refine' reg_free (G := Kept) (pickF [eqV _, eqV _, eqV _, eqV _, eqV _, eqV _, eqV _, eqV _, eqV _, eqV _, eqV _]) [29, 30, 31, 32, 33, 34, 28, 35, 36, 11, 12] [[], [0], [1], [2], [], [3, 4], [5], [6], [6], [7], [8]] [0, 1, 2, 3, 4, 5, 6, 7, 8, 9, 10] (by kernel_rfl) Kept.refl Kept.trans (pick_stays ⟨eqV_stays _, eqV_stays _, eqV_stays _, eqV_stays _, eqV_stays _, eqV_stays _, eqV_stays _, eqV_stays _, eqV_stays _, eqV_stays _, eqV_stays _, trivial⟩) 78 rfl (by kernel_rfl) (by kernel_rfl) rfl rfl ?r1obl ?r1fin
      case r1obl =>
        refine And.intro ?r1o0 (And.intro ?r1o1 (And.intro ?r1o2 (And.intro ?r1o3 (And.intro ?r1o4 (And.intro ?r1o5 (And.intro ?r1o6 (And.intro ?r1o7 (And.intro ?r1o8 (And.intro ?r1o9 (And.intro ?r1o10 (True.intro)))))))))))
        case r1o0 =>
          intro w1 hG
          refine turn_on (by rfl) ?_
          intro K hK
          go_simp
          refine hK _ _ ⟨rfl, Kept.refl _, ?_⟩
          show _ = _
          simp only [gv1]
          rfl
        case r1o1 =>
          intro w1 hG
          intro v0 h0
          change _ = _ at h0
          subst h0
          refine turn_on (by rfl) ?_
          intro K hK
          simp only [gv2]
          go_simp
          refine hK _ _ ⟨rfl, Kept.refl _, ?_⟩
          show _ = _
          simp only [gv1]
          rfl
        case r1o2 =>
          intro w1 hG
          intro v1 h1
          change _ = _ at h1
          subst h1
          refine turn_on (by rfl) ?_
          intro K hK
          simp only [gv2]
          go_simp
          refine hK _ _ ⟨rfl, Kept.refl _, ?_⟩
          show _ = _
          simp only [gv1]
          rfl
        case r1o3 =>
          intro w1 hG
          intro v2 h2
          change _ = _ at h2
          subst h2
          refine turn_on (by rfl) ?_
          intro K hK
          simp only [gv2]
          have hcc := (Below.cell (kept_0 hG) (block_lt_of_cell D11.out)).trans D11.out
          go_simp
          refine hK _ _ ⟨rfl, Kept.refl _, ?_⟩
          show _ = _
          simp only [gv1]
          rfl
        case r1o4 =>
          intro w1 hG
          refine turn_on (by rfl) ?_
          intro K hK
          have hcc := (Below.cell (kept_0 hG) (block_lt_of_cell q0)).trans q0
          have hcc1 := (Below.cell (kept_0 hG) (block_lt_of_cell q1)).trans q1
          go_simp
          refine hK _ _ ⟨rfl, Kept.refl _, ?_⟩
          show _ = _
          simp only [gv1]
          rfl
        case r1o5 =>
          intro w1 hG
          intro v3 h3
          change _ = _ at h3
          subst h3
          intro v4 h4
          change _ = _ at h4
          subst h4
          refine turn_on (by rfl) ?_
          intro K hK
          simp only [gv2]
          have hlk := (HLK2.out w1 (kept_0 hG)).1
          go_simp
          refine hK _ _ ⟨rfl, Kept.refl _, ?_⟩
          show _ = _
          simp only [gv1]
          rfl
        case r1o6 =>
          intro w1 hG
          intro v5 h5
          change _ = _ at h5
          subst h5
          refine turn_on (by rfl) ?_
          intro K hK
          simp only [gv2]
          go_simp
          refine hK _ _ ⟨rfl, Kept.refl _, ?_⟩
          show _ = _
          simp only [gv1]
          rfl
        case r1o7 =>
          intro w1 hG
          intro v6 h6
          change _ = _ at h6
          subst h6
          refine turn_on (by rfl) ?_
          intro K hK
          simp only [gv2]
          go_simp
          refine hK _ _ ⟨rfl, Kept.refl _, ?_⟩
          show _ = _
          simp only [gv1]
          rfl
        case r1o8 =>
          intro w1 hG
          intro v6 h6
          change _ = _ at h6
          subst h6
          refine turn_on (by rfl) ?_
          intro K hK
          simp only [gv2]
          go_simp
          refine hK _ _ ⟨rfl, Kept.refl _, ?_⟩
          show _ = _
          simp only [gv1]
          rfl
        case r1o9 =>
          intro w1 hG
          intro v7 h7
          change _ = _ at h7
          subst h7
          refine turn_on (by rfl) ?_
          intro K hK
          simp only [gv2]
          go_simp
          refine hK _ _ ⟨rfl, Kept.refl _, ?_⟩
          show _ = _
          simp only [gv1]
          rfl
        case r1o10 =>
          intro w1 hG
          intro v8 h8
          change _ = _ at h8
          subst h8
          refine turn_on (by rfl) ?_
          intro K hK
          simp only [gv2]
          go_simp
          refine hK _ _ ⟨rfl, Kept.refl _, ?_⟩
          show _ = _
          simp only [gv1]
          rfl
      intro w1 hG
      intro v0 h0
      change _ = _ at h0
      subst h0
      intro v1 h1
      change _ = _ at h1
      subst h1
      intro v2 h2
      change _ = _ at h2
      subst h2
      intro v3 h3
      change _ = _ at h3
      subst h3
      intro v4 h4
      change _ = _ at h4
      subst h4
      intro v5 h5
      change _ = _ at h5
      subst h5
      intro v6 h6
      change _ = _ at h6
      subst h6
      intro v7 h7
      change _ = _ at h7
      subst h7
      intro v8 h8
      change _ = _ at h8
      subst h8
      intro v9 h9
      change _ = _ at h9
      subst h9
      intro v10 h10
      change _ = _ at h10
      subst h10
      simp only [Given, gv2]
      have hb6 := kept_0 hG
      have HB6 := Lib.hid (Below.call HB2.out hb6)
      have HBW := Lib.hid hb6
      replace q0 := (Below.cell hb6 (block_lt_of_cell q0)).trans q0
      replace q1 := (Below.cell hb6 (block_lt_of_cell q1)).trans q1
      have HLA6 := Lib.hid (HLA.out.below hb6)
      obtain ⟨wC, hwC⟩ : ∃ x : World, x = w1 := ⟨_, rfl⟩
      subst hwC
      clear hG hb6
      cases OM with
      | none =>
        have HF1 : Hid (C + 1 = ((LL.take (k + 1)).filter (fU MM)).length) := by
          show _ = _
          rw [HFT.out, if_pos (by unfold fU; rw [HOM.out]; rfl)]
        clear q0 q1
        simp only [Option.isSome_none] at *
        go_wp2_with fail
        go_quiet (fail)
        go_wp2_with fail
        go_roundw
        case rel => exact ⟨k + 1, by omega, by go_num, by rw [← HF1.out]; go_num, belowNp HB6.out _⟩
        case measure => simp [intOf] <;> omega
      | some xb2 =>
        have HMB2 := Lib.hid ((HLB2.out xb2 HOM.out).below HBW.out)
        simp only [Option.isSome_some] at *
        obtain ⟨QB, hQB⟩ : ∃ x, decide (xb2 = xb) = x := ⟨_, rfl⟩
        have HQB := Lib.hid hQB
        clear hQB
        have C11C := Lib.hid ((Below.cell HBW.out (block_lt_of_cell C11.out)).trans C11.out)
        go_wp2_with fail
        refine' reg_free (G := Kept) (pickF [eqV _, eqV _, eqV _, eqV _, eqV _, eqV _, eqV _, eqV _, eqV _, eqV _, eqV _, eqV _, eqV _]) [37, 38, 39, 40, 41, 42, 43, 44, 45, 46, 47, 48, 49] [[], [0], [1], [2], [2], [2, 4], [2, 5], [2, 6], [2], [2, 7, 8], [2, 3, 9], [2, 10], [2, 11]] [0, 1, 2, 3, 4, 5, 6, 7, 8, 9, 10, 11, 12] (by kernel_rfl) Kept.refl Kept.trans (pick_stays ⟨eqV_stays _, eqV_stays _, eqV_stays _, eqV_stays _, eqV_stays _, eqV_stays _, eqV_stays _, eqV_stays _, eqV_stays _, eqV_stays _, eqV_stays _, eqV_stays _, eqV_stays _, trivial⟩) 78 rfl (by kernel_rfl) (by kernel_rfl) rfl rfl ?r2obl ?r2fin
        case r2obl =>
          refine And.intro ?r2o0 (And.intro ?r2o1 (And.intro ?r2o2 (And.intro ?r2o3 (And.intro ?r2o4 (And.intro ?r2o5 (And.intro ?r2o6 (And.intro ?r2o7 (And.intro ?r2o8 (And.intro ?r2o9 (And.intro ?r2o10 (And.intro ?r2o11 (And.intro ?r2o12 (True.intro)))))))))))))
          case r2o0 =>
            intro w1 hG
            refine turn_on (by rfl) ?_
            intro K hK
            go_simp
            refine hK _ _ ⟨rfl, Kept.refl _, ?_⟩
            show _ = _
            simp only [gv1]
            rfl
          case r2o1 =>
            intro w1 hG
            intro v0 h0
            change _ = _ at h0
            subst h0
            refine turn_on (by rfl) ?_
            intro K hK
            simp only [gv2]
            go_simp
            refine hK _ _ ⟨rfl, Kept.refl _, ?_⟩
            show _ = _
            simp only [gv1]
            rfl
          case r2o2 =>
            intro w1 hG
            intro v1 h1
            change _ = _ at h1
            subst h1
            refine turn_on (by rfl) ?_
            intro K hK
            simp only [gv2]
            go_simp
            refine hK _ _ ⟨rfl, Kept.refl _, ?_⟩
            show _ = _
            simp only [gv1]
            rfl
          case r2o3 =>
            intro w1 hG
            intro v2 h2
            change _ = _ at h2
            subst h2
            refine turn_on (by rfl) ?_
            intro K hK
            simp only [gv2]
            go_simp
            refine hK _ _ ⟨rfl, Kept.refl _, ?_⟩
            show _ = _
            simp only [gv1]
            rfl
          case r2o4 =>
            intro w1 hG
            intro v2 h2
            change _ = _ at h2
            subst h2
            refine turn_on (by rfl) ?_
            intro K hK
            simp only [gv2]
            go_simp
            refine hK _ _ ⟨rfl, Kept.refl _, ?_⟩
            show _ = _
            simp only [gv1]
            rfl
          case r2o5 =>
            intro w1 hG
            intro v2 h2
            change _ = _ at h2
            subst h2
            intro v4 h4
            change _ = _ at h4
            subst h4
            refine turn_on (by rfl) ?_
            intro K hK
            simp only [gv2]
            go_simp
            refine hK _ _ ⟨rfl, Kept.refl _, ?_⟩
            show _ = _
            simp only [gv1]
            rfl
          case r2o6 =>
            intro w1 hG
            intro v2 h2
            change _ = _ at h2
            subst h2
            intro v5 h5
            change _ = _ at h5
            subst h5
            refine turn_on (by rfl) ?_
            intro K hK
            simp only [gv2]
            go_simp
            refine hK _ _ ⟨rfl, Kept.refl _, ?_⟩
            show _ = _
            simp only [gv1]
            rfl
          case r2o7 =>
            intro w1 hG
            intro v2 h2
            change _ = _ at h2
            subst h2
            intro v6 h6
            change _ = _ at h6
            subst h6
            refine turn_on (by rfl) ?_
            intro K hK
            simp only [gv2]
            have hcc := (Below.cell (kept_0 hG) (block_lt_of_cell C11C.out)).trans C11C.out
            go_simp
            refine hK _ _ ⟨rfl, Kept.refl _, ?_⟩
            show _ = _
            simp only [gv1]
            rfl
          case r2o8 =>
            intro w1 hG
            intro v2 h2
            change _ = _ at h2
            subst h2
            refine turn_on (by rfl) ?_
            intro K hK
            simp only [gv2]
            have hcc := (Below.cell (kept_0 hG) (block_lt_of_cell q0)).trans q0
            have hcc1 := (Below.cell (kept_0 hG) (block_lt_of_cell q1)).trans q1
            go_simp
            refine hK _ _ ⟨rfl, Kept.refl _, ?_⟩
            show _ = _
            simp only [gv1]
            rfl
          case r2o9 =>
            intro w1 hG
            intro v2 h2
            change _ = _ at h2
            subst h2
            intro v7 h7
            change _ = _ at h7
            subst h7
            intro v8 h8
            change _ = _ at h8
            subst h8
            refine turn_on (by rfl) ?_
            intro K hK
            simp only [gv2]
            have hlk := (HLK.out w1 (HBW.out.trans ((kept_0 hG).mono HBW.out.size))).2
            go_simp
            refine hK _ _ ⟨rfl, Kept.refl _, ?_⟩
            show _ = _
            simp only [gv1]
            rfl
          case r2o10 =>
            intro w1 hG
            intro v2 h2
            change _ = _ at h2
            subst h2
            intro v3 h3
            change _ = _ at h3
            subst h3
            intro v9 h9
            change _ = _ at h9
            subst h9
            refine turn_on (by rfl) ?_
            intro K hK
            simp only [gv2]
            go_simp
            refine Calls.mono (bytesEq_any ma mm mc _ la lm lc _ w1 (HMB2.out.below (kept_0 hG)) (HLA6.out.below (kept_0 hG))) ?_
            rintro e w2 ⟨rfl, rfl⟩
            rw [HQB.out]
            refine hK _ _ ⟨rfl, Kept.refl _, ?_⟩
            show _ = _
            simp only [gv1]
            rfl
          case r2o11 =>
            intro w1 hG
            intro v2 h2
            change _ = _ at h2
            subst h2
            intro v10 h10
            change _ = _ at h10
            subst h10
            refine turn_on (by rfl) ?_
            intro K hK
            simp only [gv2]
            go_simp
            refine hK _ _ ⟨rfl, Kept.refl _, ?_⟩
            show _ = _
            simp only [gv1]
            rfl
          case r2o12 =>
            intro w1 hG
            intro v2 h2
            change _ = _ at h2
            subst h2
            intro v11 h11
            change _ = _ at h11
            subst h11
            refine turn_on (by rfl) ?_
            intro K hK
            simp only [gv2]
            go_simp
            refine hK _ _ ⟨rfl, Kept.refl _, ?_⟩
            show _ = _
            simp only [gv1]
            rfl
        intro w1 hG
        intro v0 h0
        change _ = _ at h0
        subst h0
        intro v1 h1
        change _ = _ at h1
        subst h1
        intro v2 h2
        change _ = _ at h2
        subst h2
        intro v3 h3
        change _ = _ at h3
        subst h3
        intro v4 h4
        change _ = _ at h4
        subst h4
        intro v5 h5
        change _ = _ at h5
        subst h5
        intro v6 h6
        change _ = _ at h6
        subst h6
        intro v7 h7
        change _ = _ at h7
        subst h7
        intro v8 h8
        change _ = _ at h8
        subst h8
        intro v9 h9
        change _ = _ at h9
        subst h9
        intro v10 h10
        change _ = _ at h10
        subst h10
        intro v11 h11
        change _ = _ at h11
        subst h11
        intro v12 h12
        change _ = _ at h12
        subst h12
        simp only [Given, gv2]
        have HB7 := Lib.hid (Below.call HB6.out (kept_0 hG))
        clear hG q0 q1
        cases QB with
        | true =>
          have HF1 : Hid (C = ((LL.take (k + 1)).filter (fU MM)).length) := by
            show _ = _
            have e1 := of_decide_eq_true HQB.out
            rw [HFT.out, if_neg (by unfold fU; rw [HOM.out, e1]; simp)]
            rfl
          go_wp2_with fail
          go_roundw
          case rel => exact ⟨k + 1, by omega, by go_num, by rw [← HF1.out], HB7⟩
          case measure => simp [intOf] <;> omega
        | false =>
          have HF1 : Hid (C + 1 = ((LL.take (k + 1)).filter (fU MM)).length) := by
            show _ = _
            have e1 := HQB.out
            rw [decide_eq_false_iff_not] at e1
            rw [HFT.out, if_pos (by unfold fU; rw [HOM.out]; simpa using e1)]
          go_wp2_with fail
          go_roundw
          case rel => exact ⟨k + 1, by omega, by go_num, by rw [← HF1.out]; go_num, HB7⟩
          case measure => simp [intOf] <;> omega
    · obtain rfl : k = NL := by omega
      have dl : decide ((k : Int) < (k : Int)) = false := decide_eq_false (by omega)
      have htk : LL.take k = LL := List.take_of_length_le (by have := HNL.out; omega)
      rw [htk]
      have hle := List.length_filter_le (fU MM) LL
      rw [HNL.out] at hle
      obtain ⟨U1, hU1⟩ : ∃ x, (LL.filter (fU MM)).length = x := ⟨_, rfl⟩
      rw [hU1] at hle ⊢
      have HU1 := Lib.hid hU1
      have HI3 := Lib.hid (HI1.out.below HB.out)
      have HJ3 := Lib.hid (HJ1.out.below HB.out)
      replace c11 := (Below.cell HB.out (block_lt_of_cell c11)).trans c11
      have hc3 := stored_any HJ3.out p
      rw [HMM.out] at hc3
      have HC3 := Lib.hid hc3
      obtain ⟨wL, hwL⟩ : ∃ x : World, x = wr := ⟨_, rfl⟩
      subst hwL
      clear htk hU1 hc3 d11
      go_wp2_with fail
      refine HC3.out.mono ?_
      rintro e w4 ⟨v4, rfl, ho4, hb4⟩
      obtain ⟨a4, cc4, rfl⟩ := ho4.shapeN NM (by rw [List.length_map]; exact HNM.out)
      have HRD4 := Lib.hid ho4.rd
      have HB4 := Lib.hid (Below.call HB.out hb4)
      have HI4 := Lib.hid (HI3.out.below hb4)
      replace c11 := (Below.cell hb4 (block_lt_of_cell c11)).trans c11
      clear ho4 hb4 HC3
      go_wp2_with fail
      go_loopw [7, 57] (fun cv iv wr => ∃ k2 : Nat, k2 ≤ NM ∧ iv = .int .i64 k2 ∧ cv = .int .i64 ((U1 + ((MM.take k2).filter (gU LL)).length : Nat) : Int) ∧ Hid (Below w4.heap.size w4 wr)) (fun _ iv _ => NM - (intOf iv).toNat)
      case atStart => exact ⟨0, by omega, rfl, by simp, Below.refl _ _⟩
      case round =>
        obtain ⟨k2, hk2, rfl, rfl, HBR⟩ := hrel
        by_cases hlt2 : k2 < NM
        · have dl : decide ((k2 : Int) < (NM : Int)) = true := decide_eq_true (by omega)
          obtain ⟨b, o, rfl, hc⟩ := (HRD4.out.below HBR.out).cell k2 hlt2
          have hwf := HRD4.out.wfAt k2 hlt2
          obtain ⟨x, HX⟩ : ∃ x, Hid (MM[k2]? = some x) := ⟨MM[k2]'(by have := HNM.out; omega), List.getElem?_eq_getElem (by have := HNM.out; omega)⟩
          have hnx : nth (MM.map Prod.fst) k2 = x.1 := by
            have h1 : (MM.map Prod.fst)[k2]? = some x.1 := by rw [List.getElem?_map, HX.out]; rfl
            have h2 := (List.getElem?_eq_some_iff.1 h1)
            rw [nth_eq h2.1, h2.2]
          rw [hnx] at hc hwf
          obtain ⟨xn, xb⟩ := x
          replace hc : wr.cell? _ = some (.int .i64 xn) := hc
          replace hwf : (Lit.int .i64 xn).wf = true := hwf
          have hft := filter_take (gU LL) MM k2 _ HX.out
          have hfl := filterK_le (gU LL) MM k2
          obtain ⟨C, hC⟩ : ∃ x, ((MM.take k2).filter (gU LL)).length = x := ⟨_, rfl⟩
          rw [hC] at hft hfl ⊢
          obtain ⟨T, hT⟩ : ∃ x, U1 + C = x := ⟨_, rfl⟩
          have htb : T ≤ 131072 := by omega
          rw [hT]
          obtain ⟨la, lm, lc, hlk, _⟩ := (HI4.out.below HBR.out).lookPB p xn HP.out hwf
          rw [HLL.out] at hlk
          obtain ⟨OM, hOM⟩ : ∃ x, kget LL xn = x := ⟨_, rfl⟩
          rw [hOM] at hlk
          have hlk := (hlk wr (Below.refl _ _)).1
          have C11 := (Below.cell HBR.out (block_lt_of_cell c11)).trans c11
          have HFT := Lib.hid hft
          have HOM := Lib.hid hOM
          have HT := Lib.hid hT
          clear hft hC hOM hT hnx hwf
          cases OM with
          | none =>
            have HF1 : Hid (T + 1 = U1 + ((MM.take (k2 + 1)).filter (gU LL)).length) := by
              show _ = _
              rw [HFT.out, if_pos (by unfold gU; rw [HOM.out]; rfl), ← HT.out]
              rfl
            simp only [Option.isSome_none] at *
            go_wp2_with fail
            go_roundw
            case rel => exact ⟨k2 + 1, by omega, by go_num, by rw [← HF1.out]; go_num, HBR⟩
            case measure => simp [intOf] <;> omega
          | some xb2 =>
            have HF1 : Hid (T = U1 + ((MM.take (k2 + 1)).filter (gU LL)).length) := by
              show _ = _
              rw [HFT.out, if_neg (by unfold gU; rw [HOM.out]; simp), ← HT.out]
              rfl
            simp only [Option.isSome_some] at *
            go_wp2_with fail
            go_roundw
            case rel => exact ⟨k2 + 1, by omega, by go_num, by rw [← HF1.out], HBR⟩
            case measure => simp [intOf] <;> omega
        · obtain rfl : k2 = NM := by omega
          have htk : MM.take k2 = MM := List.take_of_length_le (by have := HNM.out; omega)
          rw [htk]
          go_wp2_with fail
          go_ret
          refine ⟨by unfold unlM; rw [HU1.out]; rfl, HB1.out.trans ((HB4.out.trans (HBR.out.mono HB4.out.size)).mono HB1.out.size)⟩
end
end Go.Proofs.Ytnbjodoajfkekaa
