/- model: a row of slices of bytes beside a machine (as ring's, with Tn for what turned). What the laws' walks begin with. What one process does, plainly: what it leaves. The document's machine: how much it weighs, what changes; two like answers (Weight, Changes, Same). -/
import Derived.Test.YtnbjodoajfkekaaGreatMu0
import Derived.Test.YtnbjodoajfkekaaGreatMu15
import Derived.Test.YtnbjodoajfkekaaGreatMu1
import Derived.Test.YtnbjodoajfkekaaGreatMu10
import Derived.OwnWalk
import Derived.Test.YtnbjodoajfkekaaGreatMu25
import Derived.Test.YtnbjodoajfkekaaGreatMp12
import Derived.Test.YtnbjodoajfkekaaGreatMp9
import Derived.WalkKit
import Derived.ProofKit
import Derived.BigQuiet
import Derived.Deep.QuietTactic
import Derived.Lib.Hide
import Derived.RegionTactic
import Derived.Test.YtnbjodoajfkekaaGreatMp11
import Derived.Test.YtnbjodoajfkekaaGreatMu19
import Derived.Test.YtnbjodoajfkekaaGreatMp8
import Derived.Test.YtnbjodoajfkekaaGreatMp4
namespace Go.Proofs.YtnbjodoajfkekaaGreat
open Go.RowKit
theorem ownsRow_at {w w' : World} {e : TypeId} {size n : Nat} {v : Value} {xs : List Value} (h : w.ownsRow 0 e size v n xs) (hb : ∀ g, v.ownBlock = some g → w'.heap[g]? = w.heap[g]?) : w'.ownsRow 0 e size v n xs := by
 refine ⟨h.1, ?_⟩
 rcases h.2 with ⟨h1, h2⟩ | ⟨g, cap, cur, hv, h0, hh, h3⟩
 ·exact .inl ⟨h1, h2⟩
 ·exact .inr ⟨g, cap, cur, hv, h0, by rw [hb g (by rw [hv]; rfl)]; exact hh, h3⟩
/-- A row of slices, none of whose blocks is in Q. -/
structure RowsIn (w : World) (Q : Nat → Prop) (v : Value) (vs : List Value) (ls : List (List Int)) : Prop where
 own : w.ownsRow 0 36 1 v vs.length vs
 len : vs.length = ls.length
 nq : ∀ g, v.ownBlock = some g → ¬ Q g
 each : ∀ (i : Nat) (l : List Int), ls[i]? = some l → ∃ a n c, vs[i]? = some (.slice a n c) ∧ RdAt .u8 w a n c l ∧ ∀ x, a = some x → 0 < n → ¬ Q x.block ∧ some x.block ≠ v.ownBlock
theorem RowsIn.nil (w : World) (Q : Nat → Prop) : RowsIn w Q (.slice none 0 0) [] [] := ⟨⟨rfl, .inl ⟨rfl, rfl⟩⟩, rfl, fun g h => (by simp [Value.ownBlock] at h), fun i l h => by simp at h⟩
theorem RowsIn.shape {w : World} {Q : Nat → Prop} {v : Value} {vs : List Value} {ls : List (List Int)} (h : RowsIn w Q v vs ls) : ∃ a c, v = .slice a vs.length c := by
 rcases h.own.2 with ⟨hv, hn⟩ | ⟨g, cap, cur, hv, _⟩
 ·exact ⟨none, 0, by rw [hv, hn]⟩
 ·exact ⟨_, _, hv⟩
theorem rd_keepR {kd : IntKind} {w w' : World} {a : Option Addr} {n c : Nat} {l : List Int} (h : RdAt kd w a n c l) (hb : ∀ x, a = some x → 0 < n → w'.heap[x.block]? = w.heap[x.block]?) : RdAt kd w' a n c l :=
 ⟨h.len, h.cap, h.max, fun i hi => by
  obtain ⟨b, o, e, hc⟩ := h.cell i hi
  exact ⟨b, o, e, by rw [← hc]; exact World.cell?_of_block (a := ⟨b, o + i, none⟩) (hb ⟨b, o, none⟩ e (by omega))⟩, h.wf, h.void⟩
theorem rd_ltR {kd : IntKind} {w : World} {a : Option Addr} {n c : Nat} {l : List Int} (h : RdAt kd w a n c l) : ∀ x, a = some x → 0 < n → x.block < w.heap.size := fun x hx hn => by
 obtain ⟨b, o, e, hc⟩ := h.cell 0 hn
 rw [hx] at e
 injection e with e
 subst e
 exact block_lt_of_cell hc
theorem RowsIn.tn {w w' : World} {Q Q0 : Nat → Prop} {v : Value} {vs : List Value} {ls : List (List Int)} (h : RowsIn w Q v vs ls) (t : Tn Q0 w w') (hq : ∀ k, Q0 k → Q k) : RowsIn w' Q v vs ls := by
 have hlt := fun g hg => (h.own.lt g hg).2
 refine ⟨ownsRow_at h.own (fun g hg => t.block g (hlt g hg) (fun e => h.nq g hg (hq _ e))), h.len, h.nq, fun i l hl => ?_⟩
 obtain ⟨a, n, c, h1, h2, h3⟩ := h.each i l hl
 exact ⟨a, n, c, h1, rd_keepR h2 (fun x hx hn => t.block x.block (rd_ltR h2 x hx hn) (fun e => (h3 x hx hn).1 (hq _ e))), h3⟩
theorem RowsIn.below {w w' : World} {Q : Nat → Prop} {v : Value} {vs : List Value} {ls : List (List Int)} (h : RowsIn w Q v vs ls) (b : Below w.heap.size w w') : RowsIn w' Q v vs ls := h.tn (Tn.of (Q := fun _ => False) b) (fun _ h => h.elim)
theorem RowsIn.cell {w : World} {Q : Nat → Prop} {v : Value} {vs : List Value} {ls : List (List Int)} (h : RowsIn w Q v vs ls) (i : Nat) (l : List Int) (hi : ls[i]? = some l) : ∃ g cap a n c, v = .slice (some ⟨g, 0, none⟩) vs.length cap ∧ vs.length ≤ cap ∧ i < vs.length ∧ w.cell? ⟨g, i, none⟩ = some (.slice a n c) ∧ RdAt .u8 w a n c l := by
 have hlt : i < vs.length := by rw [h.len]; exact (List.getElem?_eq_some_iff.1 hi).1
 rcases h.own.2 with ⟨hv, hn⟩ | ⟨g, cap, cur, hv, h0, hh, h1, h2, h3, h4⟩
 ·omega
 ·obtain ⟨a', n', c', e1, e2, e3⟩ := h.each i l hi
  subst hv
  refine ⟨g, cap, a', n', c', rfl, h1, hlt, ?_, e2⟩
  rw [← e1]
  exact h.own.cellAt i (by omega)
theorem RowsIn.push {w w' : World} {Q : Nat → Prop} {v v' : Value} {vs : List Value} {ls : List (List Int)} (h : RowsIn w Q v vs ls) {a : Option Addr} {n c : Nat} {l : List Int} (hr : RdAt .u8 w a n c l) (hq : ∀ x, a = some x → 0 < n → ¬ Q x.block ∧ some x.block ≠ v.ownBlock)
  (hQ : ∀ k, Q k → k < w.heap.size) (ho : w'.ownsRow 0 36 1 v' (vs.length + 1) (vs ++ [.slice a n c])) (hg : w.grownBy w' v.ownBlock) (hb : v'.ownBlock = v.ownBlock ∨ ∀ g, v'.ownBlock = some g → w.heap.size ≤ g) : RowsIn w' Q v' (vs ++ [.slice a n c]) (ls ++ [l]) := by
 have hne : ∀ k, k < w.heap.size → some k ≠ v.ownBlock → some k ≠ v'.ownBlock := fun k h1 h2 h3 => by
  rcases hb with h4 | h4
  ·exact h2 (h3.trans h4)
  ·have := h4 k h3.symm; omega
 have hgb : ∀ (a : Option Addr) (n c : Nat) (l : List Int), RdAt .u8 w a n c l → (∀ x, a = some x → 0 < n → ¬ Q x.block ∧ some x.block ≠ v.ownBlock) → RdAt .u8 w' a n c l ∧ ∀ x, a = some x → 0 < n → ¬ Q x.block ∧ some x.block ≠ v'.ownBlock := fun a n c l h1 h2 =>
  ⟨rd_keepR h1 (fun x hx hn => hg.block x.block (rd_ltR h1 x hx hn) (h2 x hx hn).2), fun x hx hn => ⟨(h2 x hx hn).1, hne _ (rd_ltR h1 x hx hn) (h2 x hx hn).2⟩⟩
 refine ⟨by simpa using ho, by simp [h.len], fun g hg' => ?_, fun i l' hl => ?_⟩
 ·rcases hb with h4 | h4
  ·exact h.nq g (by rw [← h4]; exact hg')
  ·intro h5
   have := h4 g hg'
   have := hQ g h5
   omega
 ·by_cases e : i < ls.length
  ·rw [List.getElem?_append_left e] at hl
   obtain ⟨a', n', c', h1, h2, h3⟩ := h.each i l' hl
   obtain ⟨h4, h5⟩ := hgb a' n' c' l' h2 h3
   exact ⟨a', n', c', by rw [List.getElem?_append_left (by rw [h.len]; exact e)]; exact h1, h4, h5⟩
  ·have hi : i = ls.length := by
    have := (List.getElem?_eq_some_iff.1 hl).1
    simp at this
    omega
   subst hi
   simp at hl
   subst hl
   obtain ⟨h4, h5⟩ := hgb a n c l hr hq
   exact ⟨a, n, c, by rw [← h.len]; simp, h4, h5⟩
section
variable {ops : Array Oper} {rest : List Oper} {o : Oper} {act : Act} {E : Exit → Act → World → Prop}
end
set_option linter.unusedSimpArgs false
theorem OpsAt.below {w w' : World} {a : Option Addr} {n : Nat} {L : List OpP} (h : OpsAt w a n L) (hb : Below w.heap.size w w') : OpsAt w' a n L :=
 ⟨h.len, fun i A hA => by
  obtain ⟨b, o, e, ho⟩ := h.at_ i A hA
  obtain ⟨a5, n5, c5, y0, y1, y2, y3, y4, y5, hr⟩ := ho.ex
  have hc : ∀ {j v}, w.cell? ⟨b, j, none⟩ = some v → w'.cell? ⟨b, j, none⟩ = some v := fun {j v} e => cel hb e
  exact ⟨b, o, e, ⟨a5, n5, c5, hc y0, hc y1, hc y2, hc y3, hc y4, hc y5, hr.below hb⟩, ho.wf⟩⟩
theorem SameP.refl (st : Mc) : SameP st st := ⟨rfl, rfl, fun _ _ => rfl, fun _ _ _ => rfl, fun _ _ _ => rfl⟩
set_option maxRecDepth 100000 in
theorem changes_any (k : Int) (w : World) : Calls Tryz.prog 13 #[.int .i64 k] w fun e w' => e = .returned (.bool (!(decide (k = 5 ∨ k = 9)))) ∧ w = w' := by
 by_cases e5 : k = 5
 ·subst e5
  go_enter Tryz.func13, Tryz.ntmps13
  go_wp2
  go_ret
  exact ⟨rfl, rfl⟩
 ·have b5 : (k != 5) = true := by simpa using e5
  have d5 : (k == 5) = false := by simpa using e5
  by_cases e9 : k = 9
  ·subst e9
   go_enter Tryz.func13, Tryz.ntmps13
   go_wp2
   go_ret
   exact ⟨rfl, rfl⟩
  ·have b9 : (k != 9) = true := by simpa using e9
   have d9 : (k == 9) = false := by simpa using e9
   have hd : decide (k = 5 ∨ k = 9) = false := decide_eq_false (by omega)
   rw [hd]; clear hd
   go_enter Tryz.func13, Tryz.ntmps13
   go_wp2
   go_ret
   exact ⟨rfl, rfl⟩
theorem wsum_all {st : Mc} (h : McOk st) : weightM st = wsum st st.pr := by
 have h1 := weight_wsum h
 have h2 := wsum_more h (64 - st.pr)
 have h3 := h.prL
 rw [show st.pr + (64 - st.pr) = 64 by omega] at h2
 rw [h1, h2]
theorem wsum_bd {st : Mc} (h : McOk st) : ∀ k, 0 ≤ wsum st k ∧ wsum st k ≤ 70000 * k
 | 0 => by simp [wsum]
 | k + 1 => by
  have := wsum_bd h k
  have h1 := (h.cn (k : Int)).few
  have h2 := h.cf.regions
  have h3 := h.few (k : Int)
  rw [wsum, wOne]
  unfold oneW
  split <;> omega
section
variable {No : Nat → Prop} {h : RmH} {st : Mc} {w : World}
set_option maxHeartbeats 2000000 in
set_option maxRecDepth 100000 in
theorem rweight_any (i : RmIn w No h st) : Calls Tryz.prog 57 #[.pointer (some ⟨h.m, 0, none⟩)] w fun e w' => e = .returned (.int .i64 (weightM st)) ∧ Below w.heap.size w w' := by
 rw [wsum_all i.ok]; have HI := Lib.hid i
 have hprl : (st.pr : Int) ≤ 64 := by have := i.ok.prL; omega
 clear i
 go_enter Tryz.func57, Tryz.ntmps57
 go_wp2_with fail
 go_loopw [3, 4] (fun n i wr => ∃ k : Nat, k ≤ st.pr ∧ i = .int .i64 k ∧ n = .int .i64 (wsum st k) ∧ Hid (Below w.heap.size w wr)) (fun _ i _ => st.pr - (intOf i).toNat)
 case atStart => exact ⟨0, by omega, rfl, rfl, Below.refl _ _⟩
 case round =>
  obtain ⟨k, hk, rfl, rfl, B⟩ := hrel
  have ir := HI.out.below B.out
  have IR := Lib.hid ir
  obtain ⟨_, _, _, _, _, c10⟩ := ir.cells
  have hbd := wsum_bd HI.out.ok k
  obtain ⟨W, hW⟩ : ∃ x, wsum st k = x := ⟨_, rfl⟩
  rw [hW] at hbd ⊢; have HW := Lib.hid hW; clear ir hW
  by_cases hkn : k < st.pr
  ·have hkp : (k : Int) < (st.pr : Int) := by omega
   by_cases hq : st.has (k : Int) = true
   ·obtain ⟨q, hq1, hq2, cp⟩ := IR.out.ptr hq
    obtain rfl : k = q := by omega
    obtain ⟨ra, rn, rc, la, lc, z0, z1, h2, h3⟩ := (IR.out.pr (k : Int) hq).cell
    have hrn := h2.1.len
    have hrb : rn ≤ 32 := by have h1 := (HI.out.ok.cn (k : Int)).few; have h2 := HI.out.ok.cf.regions; omega
    have hln := HI.out.ok.few (k : Int)
    obtain ⟨NL, hNL⟩ : ∃ y, (st.ms (k : Int)).length = y := ⟨_, rfl⟩
    rw [hNL] at z1 hln
    have HS : Hid (wsum st (k + 1) = W + 1 + rn + NL) := by
     show _ = _; rw [wsum, wOne, if_pos hq, HW.out]
     unfold oneW
     rw [hrn, hNL]
     omega
    have u1 : IntKind.i64.wrap (W + 1) = W + 1 := by rw [IntKind.wrap_i64]; omega
    have u2 : IntKind.i64.wrap (W + 1 + (rn : Int)) = W + 1 + rn := by rw [IntKind.wrap_i64]; omega
    have u3 : IntKind.i64.wrap (W + 1 + (rn : Int) + (NL : Int)) = W + 1 + rn + NL := by rw [IntKind.wrap_i64]; omega
    clear h2 h3 hrn hNL hq1 hq; go_wp2_with fail; go_quiet (fail); go_wp2_with fail
    go_roundw
    case rel => exact ⟨k + 1, by omega, by go_num, by rw [HS.out], belowNp B.out _⟩
    case measure => simp [intOf] <;> omega
   ·have hq' : st.has (k : Int) = false := by simpa using hq
    have cp := IR.out.ptr_no hkn hq'
    have HS : Hid (wsum st (k + 1) = W) := by
     show _ = _; rw [wsum, wOne, if_neg hq, HW.out]
     omega
    clear hq hq'; go_wp2_with fail
    go_roundw
    case rel => exact ⟨k + 1, by omega, by go_num, by rw [HS.out], B.out⟩
    case measure => simp [intOf] <;> omega
  ·obtain rfl : k = st.pr := by omega
   go_wp2_with fail
   go_ret
   exact ⟨by rw [HW.out]; rfl, B.out⟩
end
set_option maxRecDepth 100000 in
theorem rchanges_any (k : Int) (w : World) : Calls Tryz.prog 14 #[.int .i64 k] w fun e w' => e = .returned (.bool (!(decide (k = 5 ∨ k = 9)))) ∧ w = w' := by
 by_cases e5 : k = 5
 ·subst e5
  go_enter Tryz.func14, Tryz.ntmps14
  go_wp2
  go_ret
  exact ⟨rfl, rfl⟩
 ·have b5 : (k != 5) = true := by simpa using e5
  have d5 : (k == 5) = false := by simpa using e5
  by_cases e9 : k = 9
  ·subst e9
   go_enter Tryz.func14, Tryz.ntmps14
   go_wp2
   go_ret
   exact ⟨rfl, rfl⟩
  ·have b9 : (k != 9) = true := by simpa using e9
   have d9 : (k == 9) = false := by simpa using e9
   have hd : decide (k = 5 ∨ k = 9) = false := decide_eq_false (by omega)
   rw [hd]; clear hd
   go_enter Tryz.func14, Tryz.ntmps14
   go_wp2
   go_ret
   exact ⟨rfl, rfl⟩
set_option maxHeartbeats 2000000 in
set_option maxRecDepth 100000 in
theorem rsame_yes (E P : Int) (da da2 pa pa2 : Option Addr) (n m dc dc2 pc pc2 : Nat) (D L : List Int) (w : World) (h1 : RdAt .u8 w da n dc D) (h2 : RdAt .u8 w da2 n dc2 D) (h3 : RdAt .i64 w pa m pc L) (h4 : RdAt .i64 w pa2 m pc2 L) :
  Calls Tryz.prog 17 #[.agg #[.int .i64 E, .int .i64 P, .slice da n dc, .slice pa m pc], .agg #[.int .i64 E, .int .i64 P, .slice da2 n dc2, .slice pa2 m pc2]] w fun e w' => e = .returned (.bool true) ∧ Below w.heap.size w w' := by
 have hb := below_a2 w (.cells #[.int .i64 E, .int .i64 P, .slice da n dc, .slice pa m pc] 45) (.cells #[.int .i64 E, .int .i64 P, .slice da2 n dc2, .slice pa2 m pc2] 45)
 have hr0 := al2_0 w (.cells #[.int .i64 E, .int .i64 P, .slice da n dc, .slice pa m pc] 45) (.cells #[.int .i64 E, .int .i64 P, .slice da2 n dc2, .slice pa2 m pc2] 45)
 have hr1 := al2_1 w (.cells #[.int .i64 E, .int .i64 P, .slice da n dc, .slice pa m pc] 45) (.cells #[.int .i64 E, .int .i64 P, .slice da2 n dc2, .slice pa2 m pc2] 45)
 obtain ⟨w1, hw1⟩ : ∃ y, (w.alloc (.cells #[.int .i64 E, .int .i64 P, .slice da n dc, .slice pa m pc] 45)).alloc (.cells #[.int .i64 E, .int .i64 P, .slice da2 n dc2, .slice pa2 m pc2] 45) = y := ⟨_, rfl⟩
 rw [hw1] at hb hr0 hr1; have HB := Lib.hid hb; have HW1 := Lib.hid hw1
 have k1 := conv_rd (P := Tryz.prog) u8T s8 su (h1.below hb)
 have k2 := conv_rd (P := Tryz.prog) u8T s8 su (h2.below hb)
 have hm := h3.max
 have hmc := h3.cap
 have hm2 : m ≤ 9223372036854775807 := by unfold maxLen at hm; omega
 have H3 := Lib.hid (h3.below hb)
 have H4 := Lib.hid (h4.below hb)
 obtain ⟨y0, y1, y2, y3⟩ := cells4a hr0
 obtain ⟨z0, z1, z2, z3⟩ := cells4a hr1
 clear h1 h2 h3 h4 hb hr0 hr1 hw1 hm hmc
 go_enter Tryz.func17, Tryz.ntmps17
 go_wp2_with (rw [HW1.out])
 go_loopw [5] (fun i wr => ∃ k : Nat, k ≤ m ∧ i = .int .i64 k ∧ Hid (Below w1.heap.size w1 wr)) (fun i _ => m - (intOf i).toNat)
 case atStart => exact ⟨0, by omega, rfl, Below.refl _ _⟩
 case round =>
  obtain ⟨k, hk, rfl, B⟩ := hrel
  replace y3 := cel B.out y3; replace z3 := cel B.out z3; clear y0 y1 y2 z0 z1 z2 k1 k2
  by_cases hp : k < m
  ·obtain ⟨b, ad, ha, hcell⟩ := (H3.out.below B.out).cell k hp
   obtain ⟨b', ad', ha', hcell'⟩ := (H4.out.below B.out).cell k hp
   subst ha ha'
   go_wp2_with fail; go_quiet (fail); go_wp2_with fail
   go_roundw
   case rel => exact ⟨k + 1, by omega, by go_num, belowNp B.out _⟩
   case measure => simp [intOf] <;> omega
  ·go_wp2_with fail
   go_ret
   exact ⟨rfl, HB.out.trans (B.out.mono HB.out.size)⟩
end Go.Proofs.YtnbjodoajfkekaaGreat
