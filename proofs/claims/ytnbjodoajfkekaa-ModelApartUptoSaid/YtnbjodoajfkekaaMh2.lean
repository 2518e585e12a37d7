/- model: a row of slices of bytes beside a machine (as ring's, with Tn for what turned). What the laws' walks begin with. Rows held against each other: bytes.Equal, slices.Equal of ints and of regions. -/
import Derived.Test.YtnbjodoajfkekaaMj12
import Derived.Test.YtnbjodoajfkekaaMj1
import Derived.Test.YtnbjodoajfkekaaMj10
import Derived.OwnWalk
import Derived.Test.YtnbjodoajfkekaaMj22
import Derived.Test.YtnbjodoajfkekaaMh1
import Derived.WalkKit
import Derived.ProofKit
import Derived.BigQuiet
import Derived.Deep.QuietTactic
import Derived.Lib.Hide
import Derived.RegionTactic
import Derived.Test.YtnbjodoajfkekaaMj13
import Derived.Test.YtnbjodoajfkekaaMj16
namespace Go.Proofs.Ytnbjodoajfkekaa
open Go.RowKit
def rowInfoR : Prop := (Try.prog.info? 25).map (fun i => (i.zero, i.size, i.bytes)) = some (some (.slice none 0 0), 1, 24)
theorem rowIR : rowInfoR := by unfold rowInfoR; kernel_rfl
set_option maxRecDepth 100000 in
theorem rowTR : Try.prog.underlying 47 = some (.slice 25) := Try.underlying47
theorem ownsRow_at {w w' : World} {e : TypeId} {size n : Nat} {v : Value} {xs : List Value} (h : w.ownsRow 0 e size v n xs) (hb : ∀ g, v.ownBlock = some g → w'.heap[g]? = w.heap[g]?) : w'.ownsRow 0 e size v n xs := by
  refine ⟨h.1, ?_⟩
  rcases h.2 with ⟨h1, h2⟩ | ⟨g, cap, cur, hv, h0, hh, h3⟩
  · exact .inl ⟨h1, h2⟩
  · exact .inr ⟨g, cap, cur, hv, h0, by rw [hb g (by rw [hv]; rfl)]; exact hh, h3⟩
/-- A row of slices, none of whose blocks is in Q. -/
structure RowsIn (w : World) (Q : Nat → Prop) (v : Value) (vs : List Value) (ls : List (List Int)) : Prop where
  own : w.ownsRow 0 25 1 v vs.length vs
  len : vs.length = ls.length
  nq : ∀ g, v.ownBlock = some g → ¬ Q g
  each : ∀ (i : Nat) (l : List Int), ls[i]? = some l → ∃ a n c, vs[i]? = some (.slice a n c) ∧ RdAt .u8 w a n c l ∧ ∀ x, a = some x → 0 < n → ¬ Q x.block ∧ some x.block ≠ v.ownBlock
theorem RowsIn.nil (w : World) (Q : Nat → Prop) : RowsIn w Q (.slice none 0 0) [] [] := ⟨⟨rfl, .inl ⟨rfl, rfl⟩⟩, rfl, fun g h => (by simp [Value.ownBlock] at h), fun i l h => by simp at h⟩
theorem RowsIn.shape {w : World} {Q : Nat → Prop} {v : Value} {vs : List Value} {ls : List (List Int)} (h : RowsIn w Q v vs ls) : ∃ a c, v = .slice a vs.length c := by
  rcases h.own.2 with ⟨hv, hn⟩ | ⟨g, cap, cur, hv, _⟩
  · exact ⟨none, 0, by rw [hv, hn]⟩
  · exact ⟨_, _, hv⟩
theorem rd_keepR {kd : IntKind} {w w' : World} {a : Option Addr} {n c : Nat} {l : List Int} (h : RdAt kd w a n c l) (hb : ∀ x, a = some x → 0 < n → w'.heap[x.block]? = w.heap[x.block]?) : RdAt kd w' a n c l :=
  ⟨h.len, h.cap, h.max, fun i hi => by
    obtain ⟨b, o, e, hc⟩ := h.cell i hi
    exact ⟨b, o, e, by rw [← hc]; exact World.cell?_of_block (a := ⟨b, o + i, none⟩) (hb ⟨b, o, none⟩ e (by omega))⟩, h.wf, h.void⟩
theorem rd_ltR {kd : IntKind} {w : World} {a : Option Addr} {n c : Nat} {l : List Int} (h : RdAt kd w a n c l) : ∀ x, a = some x → 0 < n → x.block < w.heap.size := fun x hx hn => by
  obtain ⟨b, o, e, hc⟩ := h.cell 0 hn
  rw [hx] at e
  injection e with e
  subst e
  exact block_lt_of_cell hc
theorem RowsIn.tn {w w' : World} {Q Q0 : Nat → Prop} {v : Value} {vs : List Value} {ls : List (List Int)} (h : RowsIn w Q v vs ls) (t : Tn Q0 w w') (hq : ∀ k, Q0 k → Q k) : RowsIn w' Q v vs ls := by
  have hlt := fun g hg => (h.own.lt g hg).2
  refine ⟨ownsRow_at h.own (fun g hg => t.block g (hlt g hg) (fun e => h.nq g hg (hq _ e))), h.len, h.nq, fun i l hl => ?_⟩
  obtain ⟨a, n, c, h1, h2, h3⟩ := h.each i l hl
  exact ⟨a, n, c, h1, rd_keepR h2 (fun x hx hn => t.block x.block (rd_ltR h2 x hx hn) (fun e => (h3 x hx hn).1 (hq _ e))), h3⟩
theorem RowsIn.below {w w' : World} {Q : Nat → Prop} {v : Value} {vs : List Value} {ls : List (List Int)} (h : RowsIn w Q v vs ls) (b : Below w.heap.size w w') : RowsIn w' Q v vs ls := h.tn (Tn.of (Q := fun _ => False) b) (fun _ h => h.elim)
theorem RowsIn.cell {w : World} {Q : Nat → Prop} {v : Value} {vs : List Value} {ls : List (List Int)} (h : RowsIn w Q v vs ls) (i : Nat) (l : List Int) (hi : ls[i]? = some l) : ∃ g cap a n c, v = .slice (some ⟨g, 0, none⟩) vs.length cap ∧ vs.length ≤ cap ∧ i < vs.length ∧ w.cell? ⟨g, i, none⟩ = some (.slice a n c) ∧ RdAt .u8 w a n c l := by
  have hlt : i < vs.length := by rw [h.len]; exact (List.getElem?_eq_some_iff.1 hi).1
  rcases h.own.2 with ⟨hv, hn⟩ | ⟨g, cap, cur, hv, h0, hh, h1, h2, h3, h4⟩
  · omega
  · obtain ⟨a', n', c', e1, e2, e3⟩ := h.each i l hi
    subst hv
    refine ⟨g, cap, a', n', c', rfl, h1, hlt, ?_, e2⟩
    rw [← e1]
    exact h.own.cellAt i (by omega)
theorem RowsIn.push {w w' : World} {Q : Nat → Prop} {v v' : Value} {vs : List Value} {ls : List (List Int)} (h : RowsIn w Q v vs ls) {a : Option Addr} {n c : Nat} {l : List Int} (hr : RdAt .u8 w a n c l) (hq : ∀ x, a = some x → 0 < n → ¬ Q x.block ∧ some x.block ≠ v.ownBlock)
    (hQ : ∀ k, Q k → k < w.heap.size) (ho : w'.ownsRow 0 25 1 v' (vs.length + 1) (vs ++ [.slice a n c])) (hg : w.grownBy w' v.ownBlock) (hb : v'.ownBlock = v.ownBlock ∨ ∀ g, v'.ownBlock = some g → w.heap.size ≤ g) : RowsIn w' Q v' (vs ++ [.slice a n c]) (ls ++ [l]) := by
  have hne : ∀ k, k < w.heap.size → some k ≠ v.ownBlock → some k ≠ v'.ownBlock := fun k h1 h2 h3 => by
    rcases hb with h4 | h4
    · exact h2 (h3.trans h4)
    · have := h4 k h3.symm; omega
  have hgb : ∀ (a : Option Addr) (n c : Nat) (l : List Int), RdAt .u8 w a n c l → (∀ x, a = some x → 0 < n → ¬ Q x.block ∧ some x.block ≠ v.ownBlock) → RdAt .u8 w' a n c l ∧ ∀ x, a = some x → 0 < n → ¬ Q x.block ∧ some x.block ≠ v'.ownBlock := fun a n c l h1 h2 =>
    ⟨rd_keepR h1 (fun x hx hn => hg.block x.block (rd_ltR h1 x hx hn) (h2 x hx hn).2), fun x hx hn => ⟨(h2 x hx hn).1, hne _ (rd_ltR h1 x hx hn) (h2 x hx hn).2⟩⟩
  refine ⟨by simpa using ho, by simp [h.len], fun g hg' => ?_, fun i l' hl => ?_⟩
  · rcases hb with h4 | h4
    · exact h.nq g (by rw [← h4]; exact hg')
    · intro h5
      have := h4 g hg'
      have := hQ g h5
      omega
  · by_cases e : i < ls.length
    · rw [List.getElem?_append_left e] at hl
      obtain ⟨a', n', c', h1, h2, h3⟩ := h.each i l' hl
      obtain ⟨h4, h5⟩ := hgb a' n' c' l' h2 h3
      exact ⟨a', n', c', by rw [List.getElem?_append_left (by rw [h.len]; exact e)]; exact h1, h4, h5⟩
    · have hi : i = ls.length := by
        have := (List.getElem?_eq_some_iff.1 hl).1
        simp at this
        omega
      subst hi
      simp at hl
      subst hl
      obtain ⟨h4, h5⟩ := hgb a n c l hr hq
      exact ⟨a, n, c, by rw [← h.len]; simp, h4, h5⟩
section
variable {ops : Array Oper} {rest : List Oper} {o : Oper} {act : Act} {E : Exit → Act → World → Prop}
set_option maxRecDepth 100000 in
/-- append(rows, b): one more. -/
theorem rowsin_one (hg : o.guard = none) (s x : Operand) (ho : o.op = .call { callee := .builtin .append, args := #[s, x], argTypes := #[47, 47] }) (w : World) (Q : Nat → Prop) (v : Value) (vs : List Value) (ls : List (List Int))
    (hs : act.eval s = v) (h : RowsIn w Q v vs ls) (a : Option Addr) (n c : Nat) (l : List Int) (hr : RdAt .u8 w a n c l) (hq : ∀ x, a = some x → 0 < n → ¬ Q x.block ∧ some x.block ≠ v.ownBlock) (hQ : ∀ k, Q k → k < w.heap.size) (hx : act.eval x = .slice (some ⟨w.heap.size, 0, none⟩) 1 1) (hlen : vs.length ≤ 1000000)
    (hK : ∀ v' w', RowsIn w' Q v' (vs ++ [.slice a n c]) (ls ++ [l]) → w.grownBy w' v.ownBlock → (v'.ownBlock = v.ownBlock ∨ ∀ g, v'.ownBlock = some g → w.heap.size ≤ g) → wpList Try.prog ops E rest (act.put o.dst v') w') :
    wpList Try.prog ops E (o :: rest) act (w.alloc (.cells #[.slice a n c] 25)) := by
  obtain ⟨i, hi, hz0, hz1, hz2⟩ := info_parts rowIR
  have hba : Below w.heap.size w (w.alloc (.cells #[.slice a n c] 25)) := (Below.refl _ _).alloc (Nat.le_refl _) _
  refine wpList_append_own_at _ hg s x _ ho 0 25 i (.slice none 0 0) 1 24 rowTR hi hz0 hz1 hz2 rfl (by decide) v vs.length vs hs (h.own.alloc _) ⟨w.heap.size, 0, none⟩ 1 1 [.slice a n c] hx rfl ?_ ?_ ?_ ?_ ?_ ?_
  · intro j u hj
    cases j with
    | zero =>
      simp at hj
      subst hj
      simp [Addr.add]
    | succ j => simp at hj
  · intro u hu
    simp at hu
    subst hu
    rfl
  · unfold maxLen; omega
  · omega
  · omega
  · intro v' w' h1 h2 _ h4
    have hsz : (w.alloc (.cells #[.slice a n c] 25)).heap.size = w.heap.size + 1 := by simp
    have h5 : w.grownBy w' v.ownBlock := ⟨h2.os.trans hba.os, h2.tape.trans hba.tape, h2.output.trans hba.output, Nat.le_trans hba.size h2.size, fun k hk hne => (h2.block k (Nat.lt_of_lt_of_le hk hba.size) hne).trans (hba.block k hk)⟩
    have h7 : v'.ownBlock = v.ownBlock ∨ ∀ g, v'.ownBlock = some g → w.heap.size ≤ g := h4.imp id fun h6 g hg' => by
      rw [h6] at hg'
      injection hg' with hg'
      omega
    exact hK v' w' (h.push hr hq hQ h1 h5 h7) h5 h7
end
end Go.Proofs.Ytnbjodoajfkekaa

namespace Go.Proofs.Ytnbjodoajfkekaa
open Go.RowKit
set_option linter.unusedSimpArgs false
theorem owns_tn {k : IntKind} {e : TypeId} {w w' : World} {base : Nat} {v : Value} {l : List Int} {Q : Nat → Prop} (h : Owns k e w base v l) (t : Tn Q w w') (hq : ∀ j, Q j → j < base) : Owns k e w' base v l := by
  obtain ⟨hw, h⟩ := h
  rcases h with h | ⟨h1, h2 | ⟨g, cap, cur, hv, hb, hh, hr⟩⟩
  · exact ⟨hw, .inl h⟩
  · exact ⟨hw, .inr ⟨h1, .inl h2⟩⟩
  · exact ⟨hw, .inr ⟨h1, .inr ⟨g, cap, cur, hv, hb, row_tn hh t (fun e => by have := hq _ e; omega), hr⟩⟩⟩
theorem OpsAt.below {w w' : World} {a : Option Addr} {n : Nat} {L : List OpP} (h : OpsAt w a n L) (hb : Below w.heap.size w w') : OpsAt w' a n L :=
  ⟨h.len, fun i A hA => by
    obtain ⟨b, o, e, ho⟩ := h.at_ i A hA
    obtain ⟨a5, n5, c5, y0, y1, y2, y3, y4, y5, hr⟩ := ho.ex
    have hc : ∀ {j v}, w.cell? ⟨b, j, none⟩ = some v → w'.cell? ⟨b, j, none⟩ = some v := fun {j v} e => (Below.cell hb (block_lt_of_cell e)).trans e
    exact ⟨b, o, e, ⟨a5, n5, c5, hc y0, hc y1, hc y2, hc y3, hc y4, hc y5, hr.below hb⟩, ho.wf⟩⟩
theorem ops_one {w : World} {b : Nat} {T : OpP} {ta : Option Addr} {tn tc : Nat} (h : w.heap[b]? = some (.cells #[.int .i64 T.kind, .int .i64 T.pid, .int .i64 T.at_, .int .i64 T.n, .int .i64 T.prot, .slice ta tn tc] 27 (0, 0))) (hr : RdAt .u8 w ta tn tc T.data) (hw : (Lit.int .i64 T.kind).wf = true ∧ (Lit.int .i64 T.pid).wf = true ∧ (Lit.int .i64 T.at_).wf = true ∧ (Lit.int .i64 T.n).wf = true ∧ (Lit.int .i64 T.prot).wf = true) : OpsAt w (some ⟨b, 0, none⟩) 1 [T] := by
  refine ⟨rfl, fun i A hA => ⟨b, 0, rfl, ?_⟩⟩
  have hi : i = 0 := by have := (List.getElem?_eq_some_iff.1 hA).1; simp at this; omega
  subst hi
  injection hA with hA
  subst hA
  obtain ⟨y0, y1, y2, y3, y4, y5⟩ := cells6 h
  exact ⟨⟨ta, tn, tc, y0, y1, y2, y3, y4, y5, hr⟩, hw⟩
theorem few_len {L : List OpP} (h : fewB L = true) : L.length ≤ 1000 := by
  unfold fewB at h
  simp at h
  omega
theorem stepM_c (st : Mc) (o : Opn) : (stepM st o).c = st.c := by
  unfold stepM
  split
  · rfl
  · repeat' split
    all_goals rfl
theorem runM_c (st : Mc) : ∀ (L : List OpP), (runM st L).c = st.c := by
  intro L
  induction L generalizing st with
  | nil => rfl
  | cons A r ih => exact (ih (stepM st A.o)).trans (stepM_c st A.o)
end Go.Proofs.Ytnbjodoajfkekaa

namespace Go.Proofs.Ytnbjodoajfkekaa
open Go.RowKit
set_option linter.unusedSimpArgs false
theorem str_iff {a b : List Int} (ha : Bytes a) (hb : Bytes b) : ((strOfNums a).toList == (strOfNums b).toList) = decide (a = b) := by
  by_cases h : a = b
  · subst h; simp
  · rw [decide_eq_false h, beq_eq_false_iff_ne]
    exact fun e => h (str_inj ha hb e)
set_option maxRecDepth 100000 in
theorem bytesEq_any (a : Option Addr) (n c : Nat) (x : List Int) (a' : Option Addr) (n' c' : Nat) (y : List Int) (w : World) (h : RdAt .u8 w a n c x) (h' : RdAt .u8 w a' n' c' y) :
    Calls Try.prog 46 #[.slice a n c, .slice a' n' c'] w fun e w' => e = .returned (.bool (decide (x = y))) ∧ w = w' := by
  have k1 := conv_rd (P := Try.prog) u8T s8 su h
  have k2 := conv_rd (P := Try.prog) u8T s8 su h'
  have HI := Lib.hid (str_iff h.bytes h'.bytes)
  go_enter Try.func46, Try.ntmps46
  go_wp2
  go_ret
  exact ⟨by rw [HI.out]; rfl, rfl⟩
instance : DecidableEq Rg := fun a b => decidable_of_iff (a.lo = b.lo ∧ a.hi = b.hi ∧ a.p = b.p) ⟨fun h => by cases a; cases b; simp only at h; rw [h.1, h.2.1, h.2.2], fun h => by rw [h]; exact ⟨rfl, rfl, rfl⟩⟩
set_option maxHeartbeats 1000000 in
set_option maxRecDepth 100000 in
theorem equalI_any (a : Option Addr) (n c : Nat) (l : List Int) (a' : Option Addr) (n' c' : Nat) (l' : List Int) (w : World) (h : RdAt .i64 w a n c l) (h' : RdAt .i64 w a' n' c' l') (hm : n ≤ 1000000 ∧ n' ≤ 1000000) :
    Calls Try.prog 44 #[.slice a n c, .slice a' n' c'] w fun e w' => e = .returned (.bool (decide (l = l'))) ∧ Below w.heap.size w w' := by
  have H := Lib.hid h
  have H' := Lib.hid h'
  have HLN : Hid (l.length = n) := h.len
  have HLN' : Hid (l'.length = n') := h'.len
  obtain ⟨hm1, hm2⟩ := hm
  clear h h'
  by_cases hn : n = n'
  · subst hn
    obtain ⟨D, hD⟩ : ∃ D : Bool, decide (l = l') = D := ⟨_, rfl⟩
    rw [hD]
    have HD := Lib.hid hD
    clear hD
    go_enter Try.func44, Try.ntmps44
    go_wp2_with fail
    go_loopw [13] (fun i wr => ∃ (k : Nat), k ≤ n ∧ i = .int .i64 k ∧ Hid (Below w.heap.size w wr) ∧ Hid (l.take k = l'.take k)) (fun i _ => n - (intOf i).toNat)
    case atStart => exact ⟨0, by omega, rfl, Below.refl _ _, rfl⟩
    case round =>
      obtain ⟨k, hk, rfl, HB, HT⟩ := hrel
      by_cases hkn : k < n
      · obtain ⟨b, o, rfl, hc⟩ := (H.out.below HB.out).cell k hkn
        obtain ⟨b', o', rfl, hc'⟩ := (H'.out.below HB.out).cell k hkn
        obtain ⟨x, hx⟩ : ∃ x, nth l k = x := ⟨_, rfl⟩
        obtain ⟨y, hy⟩ : ∃ y, nth l' k = y := ⟨_, rfl⟩
        rw [hx] at hc
        rw [hy] at hc'
        have HX := Lib.hid hx
        have HY := Lib.hid hy
        clear hx hy
        by_cases hxy : x = y
        · subst hxy
          have HT2 : Hid (l.take (k + 1) = l'.take (k + 1)) := by
            show _ = _
            have h1 := HLN.out
            have h2 := HLN'.out
            rw [List.take_add_one, List.take_add_one, HT.out, List.getElem?_eq_getElem (by omega), List.getElem?_eq_getElem (by omega), ← nth_eq (by omega), ← nth_eq (by omega), HX.out, HY.out]
          go_wp2_with fail
          go_quiet (fail)
          go_wp2_with fail
          go_roundw
          case rel => exact ⟨k + 1, by omega, by go_num, ⟨HB.out.os, HB.out.tape, HB.out.output, HB.out.size, HB.out.block⟩, HT2⟩
          case measure => simp [intOf] <;> omega
        · have hxy2 : (x == y) = false := by simpa using hxy
          have hxy3 : (x != y) = true := by simpa using hxy
          have HF : Hid (D = false) := by
            show _ = _
            rw [← HD.out]
            refine decide_eq_false (fun e => hxy ?_)
            rw [← HX.out, ← HY.out, e]
          clear hxy
          go_wp2_with fail
          go_quiet (fail)
          go_wp2_with fail
          go_ret
          rw [HF.out]
          exact ⟨rfl, ⟨HB.out.os, HB.out.tape, HB.out.output, HB.out.size, HB.out.block⟩⟩
      · obtain rfl : k = n := by omega
        have HF : Hid (D = true) := by
          show _ = _
          rw [← HD.out]
          refine decide_eq_true ?_
          have h1 := HT.out
          rwa [List.take_of_length_le (by rw [HLN.out]; omega), List.take_of_length_le (by rw [HLN'.out]; omega)] at h1
        go_wp2_with fail
        go_ret
        rw [HF.out]
        exact ⟨rfl, HB.out⟩
  · have hD : decide (l = l') = false := decide_eq_false (fun e => hn (by rw [← HLN.out, ← HLN'.out, e]))
    have hn2 : (n == n') = false := by simpa using hn
    have hn3 : ((n : Int) == (n' : Int)) = false := by simp; omega
    have hn4 : ((n : Int) != (n' : Int)) = true := by simp; omega
    rw [hD]
    clear hD hn
    go_enter Try.func44, Try.ntmps44
    go_wp2_with fail
    go_ret
    exact ⟨rfl, Below.refl _ _⟩
set_option maxHeartbeats 1000000 in
set_option maxRecDepth 100000 in
theorem equalR_any (a : Option Addr) (n c : Nat) (l : List Rg) (a' : Option Addr) (n' c' : Nat) (l' : List Rg) (w : World) (h : RdS Rg.cells 3 w a n c l) (h' : RdS Rg.cells 3 w a' n' c' l') (hm : n ≤ 1000000 ∧ n' ≤ 1000000) :
    Calls Try.prog 45 #[.slice a n c, .slice a' n' c'] w fun e w' => e = .returned (.bool (decide (l = l'))) ∧ Below w.heap.size w w' := by
  have H := Lib.hid h
  have H' := Lib.hid h'
  have HLN : Hid (l.length = n) := h.len
  have HLN' : Hid (l'.length = n') := h'.len
  obtain ⟨hm1, hm2⟩ := hm
  clear h h'
  by_cases hn : n = n'
  · subst hn
    obtain ⟨D, hD⟩ : ∃ D : Bool, decide (l = l') = D := ⟨_, rfl⟩
    rw [hD]
    have HD := Lib.hid hD
    clear hD
    go_enter Try.func45, Try.ntmps45
    go_wp2_with fail
    go_loopw [13] (fun i wr => ∃ (k : Nat), k ≤ n ∧ i = .int .i64 k ∧ Hid (Below w.heap.size w wr) ∧ Hid (l.take k = l'.take k)) (fun i _ => n - (intOf i).toNat)
    case atStart => exact ⟨0, by omega, rfl, Below.refl _ _, rfl⟩
    case round =>
      obtain ⟨k, hk, rfl, HB, HT⟩ := hrel
      by_cases hkn : k < n
      · obtain ⟨x, HX⟩ : ∃ x, Hid (l[k]? = some x) := ⟨l[k]'(by have := HLN.out; omega), List.getElem?_eq_getElem (by have := HLN.out; omega)⟩
        obtain ⟨y, HY⟩ : ∃ y, Hid (l'[k]? = some y) := ⟨l'[k]'(by have := HLN'.out; omega), List.getElem?_eq_getElem (by have := HLN'.out; omega)⟩
        obtain ⟨g, o, rfl, c0, c1, c2⟩ := (H.out.below HB.out).three k x HX.out
        obtain ⟨g', o', rfl, d0, d1, d2⟩ := (H'.out.below HB.out).three k y HY.out
        obtain ⟨rlo, rhi, rp⟩ := x
        obtain ⟨slo, shi, sp⟩ := y
        replace c0 : wr.cell? ⟨g, o + k * 3, none⟩ = some (.int .i64 rlo) := c0
        replace c1 : wr.cell? ⟨g, o + k * 3 + 1, none⟩ = some (.int .i64 rhi) := c1
        replace c2 : wr.cell? ⟨g, o + k * 3 + 2, none⟩ = some (.int .i64 rp) := c2
        replace d0 : wr.cell? ⟨g', o' + k * 3, none⟩ = some (.int .i64 slo) := d0
        replace d1 : wr.cell? ⟨g', o' + k * 3 + 1, none⟩ = some (.int .i64 shi) := d1
        replace d2 : wr.cell? ⟨g', o' + k * 3 + 2, none⟩ = some (.int .i64 sp) := d2
        by_cases hxy : rlo = slo ∧ rhi = shi ∧ rp = sp
        · obtain ⟨rfl, rfl, rfl⟩ := hxy
          have HT2 : Hid (l.take (k + 1) = l'.take (k + 1)) := by
            show _ = _
            rw [List.take_add_one, List.take_add_one, HT.out, HX.out, HY.out]
          go_wp2_with fail
          go_quiet (fail)
          go_wp2_with fail
          go_roundw
          case rel => exact ⟨k + 1, by omega, by go_num, ⟨HB.out.os, HB.out.tape, HB.out.output, HB.out.size, HB.out.block⟩, HT2⟩
          case measure => simp [intOf] <;> omega
        · have HF : Hid (D = false) := by
            show _ = _
            rw [← HD.out]
            refine decide_eq_false (fun e => hxy ?_)
            have h1 := HX.out
            rw [e, HY.out] at h1
            injection h1 with h1
            injection h1 with e1 e2 e3
            exact ⟨e1.symm, e2.symm, e3.symm⟩
          by_cases e1 : rlo = slo
          · subst e1
            by_cases e2 : rhi = shi
            · subst e2
              have q3 : (rp == sp) = false := by simpa using fun e => hxy ⟨rfl, rfl, e⟩
              clear hxy
              go_wp2_with fail
              go_quiet (fail)
              go_wp2_with fail
              go_ret
              rw [HF.out]
              exact ⟨rfl, ⟨HB.out.os, HB.out.tape, HB.out.output, HB.out.size, HB.out.block⟩⟩
            · have q2 : (rhi == shi) = false := by simpa using e2
              clear hxy e2
              go_wp2_with fail
              go_quiet (fail)
              go_wp2_with fail
              go_ret
              rw [HF.out]
              exact ⟨rfl, ⟨HB.out.os, HB.out.tape, HB.out.output, HB.out.size, HB.out.block⟩⟩
          · have q1 : (rlo == slo) = false := by simpa using e1
            clear hxy e1
            go_wp2_with fail
            go_quiet (fail)
            go_wp2_with fail
            go_ret
            rw [HF.out]
            exact ⟨rfl, ⟨HB.out.os, HB.out.tape, HB.out.output, HB.out.size, HB.out.block⟩⟩
      · obtain rfl : k = n := by omega
        have HF : Hid (D = true) := by
          show _ = _
          rw [← HD.out]
          refine decide_eq_true ?_
          have h1 := HT.out
          rwa [List.take_of_length_le (by rw [HLN.out]; omega), List.take_of_length_le (by rw [HLN'.out]; omega)] at h1
        go_wp2_with fail
        go_ret
        rw [HF.out]
        exact ⟨rfl, HB.out⟩
  · have hD : decide (l = l') = false := decide_eq_false (fun e => hn (by rw [← HLN.out, ← HLN'.out, e]))
    have hn2 : (n == n') = false := by simpa using hn
    have hn3 : ((n : Int) == (n' : Int)) = false := by simp; omega
    have hn4 : ((n : Int) != (n' : Int)) = true := by simp; omega
    rw [hD]
    clear hD hn
    go_enter Try.func45, Try.ntmps45
    go_wp2_with fail
    go_ret
    exact ⟨rfl, Below.refl _ _⟩
set_option maxHeartbeats 1000000 in
set_option maxRecDepth 100000 in
theorem intsEq_any (a : Option Addr) (n c : Nat) (l : List Int) (a' : Option Addr) (n' c' : Nat) (l' : List Int) (w : World) (h : RdAt .i64 w a n c l) (h' : RdAt .i64 w a' n' c' l') (hm : n ≤ 1000000 ∧ n' ≤ 1000000) :
    Calls Try.prog 16 #[.slice a n c, .slice a' n' c'] w fun e w' => e = .returned (.bool (decide (l = l'))) ∧ Below w.heap.size w w' := by
  have H := Lib.hid h
  have H' := Lib.hid h'
  have HLN : Hid (l.length = n) := h.len
  have HLN' : Hid (l'.length = n') := h'.len
  obtain ⟨hm1, hm2⟩ := hm
  clear h h'
  by_cases hn : n = n'
  · subst hn
    obtain ⟨D, hD⟩ : ∃ D : Bool, decide (l = l') = D := ⟨_, rfl⟩
    rw [hD]
    have HD := Lib.hid hD
    clear hD
    go_enter Try.func16, Try.ntmps16
    go_wp2_with fail
    go_loopw [5] (fun i wr => ∃ (k : Nat), k ≤ n ∧ i = .int .i64 k ∧ Hid (Below w.heap.size w wr) ∧ Hid (l.take k = l'.take k)) (fun i _ => n - (intOf i).toNat)
    case atStart => exact ⟨0, by omega, rfl, Below.refl _ _, rfl⟩
    case round =>
      obtain ⟨k, hk, rfl, HB, HT⟩ := hrel
      by_cases hkn : k < n
      · obtain ⟨b, o, rfl, hc⟩ := (H.out.below HB.out).cell k hkn
        obtain ⟨b', o', rfl, hc'⟩ := (H'.out.below HB.out).cell k hkn
        obtain ⟨x, hx⟩ : ∃ x, nth l k = x := ⟨_, rfl⟩
        obtain ⟨y, hy⟩ : ∃ y, nth l' k = y := ⟨_, rfl⟩
        rw [hx] at hc
        rw [hy] at hc'
        have HX := Lib.hid hx
        have HY := Lib.hid hy
        clear hx hy
        by_cases hxy : x = y
        · subst hxy
          have HT2 : Hid (l.take (k + 1) = l'.take (k + 1)) := by
            show _ = _
            have h1 := HLN.out
            have h2 := HLN'.out
            rw [List.take_add_one, List.take_add_one, HT.out, List.getElem?_eq_getElem (by omega), List.getElem?_eq_getElem (by omega), ← nth_eq (by omega), ← nth_eq (by omega), HX.out, HY.out]
          go_wp2_with fail
          go_quiet (fail)
          go_wp2_with fail
          go_roundw
          case rel => exact ⟨k + 1, by omega, by go_num, ⟨HB.out.os, HB.out.tape, HB.out.output, HB.out.size, HB.out.block⟩, HT2⟩
          case measure => simp [intOf] <;> omega
        · have hxy2 : (x == y) = false := by simpa using hxy
          have hxy3 : (x != y) = true := by simpa using hxy
          have HF : Hid (D = false) := by
            show _ = _
            rw [← HD.out]
            refine decide_eq_false (fun e => hxy ?_)
            rw [← HX.out, ← HY.out, e]
          clear hxy
          go_wp2_with fail
          go_quiet (fail)
          go_wp2_with fail
          go_ret
          rw [HF.out]
          exact ⟨rfl, ⟨HB.out.os, HB.out.tape, HB.out.output, HB.out.size, HB.out.block⟩⟩
      · obtain rfl : k = n := by omega
        have HF : Hid (D = true) := by
          show _ = _
          rw [← HD.out]
          refine decide_eq_true ?_
          have h1 := HT.out
          rwa [List.take_of_length_le (by rw [HLN.out]; omega), List.take_of_length_le (by rw [HLN'.out]; omega)] at h1
        go_wp2_with fail
        go_ret
        rw [HF.out]
        exact ⟨rfl, HB.out⟩
  · have hD : decide (l = l') = false := decide_eq_false (fun e => hn (by rw [← HLN.out, ← HLN'.out, e]))
    have hn2 : (n == n') = false := by simpa using hn
    have hn3 : ((n : Int) == (n' : Int)) = false := by simp; omega
    have hn4 : ((n : Int) != (n' : Int)) = true := by simp; omega
    rw [hD]
    clear hD hn
    go_enter Try.func16, Try.ntmps16
    go_wp2_with fail
    go_ret
    exact ⟨rfl, Below.refl _ _⟩
set_option maxHeartbeats 1000000 in
set_option maxRecDepth 100000 in
theorem regsEq_any (a : Option Addr) (n c : Nat) (l : List Rg) (a' : Option Addr) (n' c' : Nat) (l' : List Rg) (w : World) (h : RdS Rg.cells 3 w a n c l) (h' : RdS Rg.cells 3 w a' n' c' l') (hm : n ≤ 1000000 ∧ n' ≤ 1000000) :
    Calls Try.prog 15 #[.slice a n c, .slice a' n' c'] w fun e w' => e = .returned (.bool (decide (l = l'))) ∧ Below w.heap.size w w' := by
  have H := Lib.hid h
  have H' := Lib.hid h'
  have HLN : Hid (l.length = n) := h.len
  have HLN' : Hid (l'.length = n') := h'.len
  obtain ⟨hm1, hm2⟩ := hm
  clear h h'
  by_cases hn : n = n'
  · subst hn
    obtain ⟨D, hD⟩ : ∃ D : Bool, decide (l = l') = D := ⟨_, rfl⟩
    rw [hD]
    have HD := Lib.hid hD
    clear hD
    go_enter Try.func15, Try.ntmps15
    go_wp2_with fail
    go_loopw [5] (fun i wr => ∃ (k : Nat), k ≤ n ∧ i = .int .i64 k ∧ Hid (Below w.heap.size w wr) ∧ Hid (l.take k = l'.take k)) (fun i _ => n - (intOf i).toNat)
    case atStart => exact ⟨0, by omega, rfl, Below.refl _ _, rfl⟩
    case round =>
      obtain ⟨k, hk, rfl, HB, HT⟩ := hrel
      by_cases hkn : k < n
      · obtain ⟨x, HX⟩ : ∃ x, Hid (l[k]? = some x) := ⟨l[k]'(by have := HLN.out; omega), List.getElem?_eq_getElem (by have := HLN.out; omega)⟩
        obtain ⟨y, HY⟩ : ∃ y, Hid (l'[k]? = some y) := ⟨l'[k]'(by have := HLN'.out; omega), List.getElem?_eq_getElem (by have := HLN'.out; omega)⟩
        obtain ⟨g, o, rfl, c0, c1, c2⟩ := (H.out.below HB.out).three k x HX.out
        obtain ⟨g', o', rfl, d0, d1, d2⟩ := (H'.out.below HB.out).three k y HY.out
        obtain ⟨rlo, rhi, rp⟩ := x
        obtain ⟨slo, shi, sp⟩ := y
        replace c0 : wr.cell? ⟨g, o + k * 3, none⟩ = some (.int .i64 rlo) := c0
        replace c1 : wr.cell? ⟨g, o + k * 3 + 1, none⟩ = some (.int .i64 rhi) := c1
        replace c2 : wr.cell? ⟨g, o + k * 3 + 2, none⟩ = some (.int .i64 rp) := c2
        replace d0 : wr.cell? ⟨g', o' + k * 3, none⟩ = some (.int .i64 slo) := d0
        replace d1 : wr.cell? ⟨g', o' + k * 3 + 1, none⟩ = some (.int .i64 shi) := d1
        replace d2 : wr.cell? ⟨g', o' + k * 3 + 2, none⟩ = some (.int .i64 sp) := d2
        by_cases hxy : rlo = slo ∧ rhi = shi ∧ rp = sp
        · obtain ⟨rfl, rfl, rfl⟩ := hxy
          have HT2 : Hid (l.take (k + 1) = l'.take (k + 1)) := by
            show _ = _
            rw [List.take_add_one, List.take_add_one, HT.out, HX.out, HY.out]
          go_wp2_with fail
          go_quiet (fail)
          go_wp2_with fail
          go_roundw
          case rel => exact ⟨k + 1, by omega, by go_num, ⟨HB.out.os, HB.out.tape, HB.out.output, HB.out.size, HB.out.block⟩, HT2⟩
          case measure => simp [intOf] <;> omega
        · have HF : Hid (D = false) := by
            show _ = _
            rw [← HD.out]
            refine decide_eq_false (fun e => hxy ?_)
            have h1 := HX.out
            rw [e, HY.out] at h1
            injection h1 with h1
            injection h1 with e1 e2 e3
            exact ⟨e1.symm, e2.symm, e3.symm⟩
          by_cases e1 : rlo = slo
          · subst e1
            by_cases e2 : rhi = shi
            · subst e2
              have q3 : (rp == sp) = false := by simpa using fun e => hxy ⟨rfl, rfl, e⟩
              clear hxy
              go_wp2_with fail
              go_quiet (fail)
              go_wp2_with fail
              go_ret
              rw [HF.out]
              exact ⟨rfl, ⟨HB.out.os, HB.out.tape, HB.out.output, HB.out.size, HB.out.block⟩⟩
            · have q2 : (rhi == shi) = false := by simpa using e2
              clear hxy e2
              go_wp2_with fail
              go_quiet (fail)
              go_wp2_with fail
              go_ret
              rw [HF.out]
              exact ⟨rfl, ⟨HB.out.os, HB.out.tape, HB.out.output, HB.out.size, HB.out.block⟩⟩
          · have q1 : (rlo == slo) = false := by simpa using e1
            clear hxy e1
            go_wp2_with fail
            go_quiet (fail)
            go_wp2_with fail
            go_ret
            rw [HF.out]
            exact ⟨rfl, ⟨HB.out.os, HB.out.tape, HB.out.output, HB.out.size, HB.out.block⟩⟩
      · obtain rfl : k = n := by omega
        have HF : Hid (D = true) := by
          show _ = _
          rw [← HD.out]
          refine decide_eq_true ?_
          have h1 := HT.out
          rwa [List.take_of_length_le (by rw [HLN.out]; omega), List.take_of_length_le (by rw [HLN'.out]; omega)] at h1
        go_wp2_with fail
        go_ret
        rw [HF.out]
        exact ⟨rfl, HB.out⟩
  · have hD : decide (l = l') = false := decide_eq_false (fun e => hn (by rw [← HLN.out, ← HLN'.out, e]))
    have hn2 : (n == n') = false := by simpa using hn
    have hn3 : ((n : Int) == (n' : Int)) = false := by simp; omega
    have hn4 : ((n : Int) != (n' : Int)) = true := by simp; omega
    rw [hD]
    clear hD hn
    go_enter Try.func15, Try.ntmps15
    go_wp2_with fail
    go_ret
    exact ⟨rfl, Below.refl _ _⟩
end Go.Proofs.Ytnbjodoajfkekaa
