/- The walk of almanaclaw15.RegionLooks. -/
import Derived.Test.YtoampbdipmecmaaRegionLooks
namespace Go.Proofs.Ytoampbdipmecmaa
open Go.RowKit Go.Shelf Go.Proofs
attribute [local go_sem] Oper.semAt_some

set_option linter.unusedSimpArgs false in
set_option linter.unusedVariables false in
set_option maxRecDepth 100000 in
set_option maxHeartbeats 4000000 in
theorem looks_inA (a0 : Option Addr) (n c0 : Nat) (L : List Rg) (page lo hi ways stop : Int) (w : World) (h : RdS Rg.cells 3 w a0 n c0 L) (hn : n ≤ 60) (h2 : hi ≤ 1099511627776) (hlo : (Lit.int .i64 lo).wf = true) (hhi : (Lit.int .i64 hi).wf = true) (hask : ways < 0) :
    Calls Try.prog 6 #[.slice a0 n c0, .int .i64 page, .int .i64 lo, .int .i64 hi, .int .i64 ways, .int .i64 stop] w fun e w' => e = .returned (.bool true) ∧ Below w.heap.size w w' := by
  have H := Lib.hid h
  have hl := h.len
  have HC := Lib.hid (clean_cn (L := L) (n := 60) (by omega))
  obtain ⟨C, hC⟩ : ∃ C, cleanL L = C := ⟨_, rfl⟩
  rw [hC] at HC
  have HEQ := Lib.hid hC
  obtain ⟨q, hq⟩ : ∃ q, C.length = q := ⟨_, rfl⟩
  have hq1 : q ≤ 120 := by have := HC.out.few; omega
  have HQ := Lib.hid hq
  have dn : decide ((60 : Int) < (n : Int)) = false := decide_eq_false (by omega)
  have d3 : decide ((1099511627776 : Int) < hi) = false := decide_eq_false (by omega)
  have HN : Hid (n ≤ 60) := hn
  obtain ⟨⟨fl, fh, fp⟩, hFR⟩ : ∃ z, findR C page = z := ⟨_, rfl⟩
  obtain ⟨FB, hFB⟩ : ∃ z, findB C page = z := ⟨_, rfl⟩
  obtain ⟨PC, hPC⟩ : ∃ z, pagesN C = z := ⟨_, rfl⟩
  obtain ⟨AB, hAB⟩ : ∃ z, refAll C lo hi (okW ways) = z := ⟨_, rfl⟩
  obtain ⟨P, hP⟩ : ∃ z, piecesL C lo hi = z := ⟨_, rfl⟩
  obtain ⟨np, hnp⟩ : ∃ z, P.length = z := ⟨_, rfl⟩
  have hnp1 : np ≤ 120 := by
    have := piecesL_le C C.length lo hi
    rw [List.take_length, hP] at this
    omega
  have HFR := Lib.hid hFR
  have HFB := Lib.hid hFB
  have HPC := Lib.hid hPC
  have HAB := Lib.hid hAB
  have HP := Lib.hid hP
  have HNP := Lib.hid hnp
  have HALL : Hid (0 ≤ lo → allL C lo hi (okW ways) = AB) := fun h0 => by rw [← HAB.out]; exact all_ref HC.out.canon.rising h0
  clear h hl hC hq hFR hFB hPC hAB hP hnp
  have hba := below_a2 w (.cells #[.int .i64 stop] 3) (.cells #[.bool false] 4)
  have hrow5 := (Boxed.new w 3 (.int .i64 stop)).alloc (.cells #[.bool false] 4)
  have hrow := Boxed.new (w.alloc (.cells #[.int .i64 stop] 3)) 4 (.bool false)
  rw [World.size_alloc] at hrow
  obtain ⟨wa, hwa⟩ : ∃ wa, (w.alloc (.cells #[.int .i64 stop] 3)).alloc (.cells #[.bool false] 4) = wa := ⟨_, rfl⟩
  obtain ⟨hb, hhb⟩ : ∃ hb, w.heap.size = hb := ⟨_, rfl⟩
  rw [hwa] at hba hrow hrow5
  rw [hhb] at hrow hrow5
  have hlt : hb + 1 < wa.heap.size := hrow.lt
  have BA := Lib.hid hba
  have R5 := Lib.hid hrow5
  have RA := Lib.hid hrow
  have HLT := Lib.hid hlt
  have HWA := Lib.hid hwa
  have HRB := Lib.hid hhb
  clear hba hrow hrow5 hwa hhb hlt
  have s1 : decide (0 ≤ ways) = false := decide_eq_false (by omega)
  refine (callsIn_wide (n := 6)).1 ?_
  refine callsIn_of_wp_marks Try.func6 rfl trivial ?_ rfl
  simp only [Try.ntmps6, List.size_toArray, List.length_cons, List.length_nil, Nat.reduceAdd, Nat.reduceSub, Array.replicate_succ, Array.replicate_zero, List.push_toArray, List.append_toArray, List.nil_append, List.cons_append]
  gi_wp2_with (first | (rw [HWA.out, HRB.out]) | fail)
  refine ⟨trivial, (callsIn_wide.2 (known_any wa)).mono ?_⟩
  rintro e w1 ⟨rfl, hb1⟩
  gi_wp2_with fail
  refine ⟨trivial, (callsIn_wide.2 (clean_any a0 n c0 L w1 ((H.out.below BA.out).below hb1) (Nat.le_trans HN.out (by omega)))).mono ?_⟩
  rintro e w2 ⟨v2, rfl, ho2, hb2⟩
  rw [HEQ.out] at ho2
  obtain ⟨ac, cc, rfl⟩ := ho2.shapeN q HQ.out
  have RC : Hid (∀ z, Below w2.heap.size w2 z → RdS Rg.cells 3 z ac q cc C) := fun z hb => (ho2.below hb).rd rgC
  have S2 : Hid (Below wa.heap.size wa w2) := Below.call hb1 hb2
  clear ho2 hb1 hb2
  gi_wp2_with fail
  refine ⟨trivial, (callsIn_wide.2 (find_any ac q cc C page w2 (RC.out _ (Below.refl _ _)) (by omega))).mono ?_⟩
  rintro e w3 ⟨rfl, hb3⟩
  rw [HFR.out, HFB.out]
  dsimp only [Rg.val]
  have hal := below_a w3 (.cells #[.int .i64 fl, .int .i64 fh, .int .i64 fp] 29)
  have hbox := heap_alloc_new w3 (.cells #[.int .i64 fl, .int .i64 fh, .int .i64 fp] 29)
  obtain ⟨w4, hw4⟩ : ∃ z, w3.alloc (.cells #[.int .i64 fl, .int .i64 fh, .int .i64 fp] 29) = z := ⟨_, rfl⟩
  obtain ⟨xb, hxb⟩ : ∃ z, w3.heap.size = z := ⟨_, rfl⟩
  rw [hw4] at hal hbox
  rw [hxb] at hbox
  have T4 : Hid (Below w2.heap.size w2 w4) := Below.call hb3 hal
  have RX := Lib.hid hbox
  clear hal hbox hb3
  gi_wp2_with (first | (rw [hw4]) | fail)
  refine ⟨trivial, (callsIn_wide.2 (reffind_any ac q cc C page w4 (RC.out _ T4.out) (by omega))).mono ?_⟩
  rintro e w5 ⟨rfl, hb5⟩
  rw [HFR.out, HFB.out]
  dsimp only [Rg.val]
  have hal := below_a w5 (.cells #[.int .i64 fl, .int .i64 fh, .int .i64 fp] 29)
  have hbox := heap_alloc_new w5 (.cells #[.int .i64 fl, .int .i64 fh, .int .i64 fp] 29)
  obtain ⟨w6, hw6⟩ : ∃ z, w5.alloc (.cells #[.int .i64 fl, .int .i64 fh, .int .i64 fp] 29) = z := ⟨_, rfl⟩
  obtain ⟨yb, hyb⟩ : ∃ z, w5.heap.size = z := ⟨_, rfl⟩
  rw [hw6] at hal hbox
  rw [hyb] at hbox
  have T6 : Hid (Below w2.heap.size w2 w6) := Below.call T4.out (Below.call hb5 hal)
  have hx6 := row_keep RX.out (Below.call hb5 hal)
  obtain ⟨x0, x1, x2⟩ := cells3 hx6
  obtain ⟨y0, y1, y2⟩ := cells3 hbox
  have eB : (FB != FB) = false := by simp
  clear hal hbox hb5 hx6
  gi_wp2_with (first | (rw [hw6]) | fail)
  refine ⟨trivial, (callsIn_wide.2 (pages_any ac q cc C w6 (RC.out _ T6.out) HC.out.sm (by omega))).mono ?_⟩
  rintro e w7 ⟨rfl, hb7⟩
  rw [HPC.out]
  have T7 : Hid (Below w2.heap.size w2 w7) := Below.call T6.out hb7
  clear hb7 x0 x1 x2 y0 y1 y2
  gi_wp2_with fail
  refine ⟨trivial, (callsIn_wide.2 (refpages_any ac q cc C w7 (RC.out _ T7.out) HC.out.sm (by omega))).mono ?_⟩
  rintro e w8 ⟨rfl, hb8⟩
  rw [HPC.out]
  have eP : (PC != PC) = false := by simp
  have T8 : Hid (Below w2.heap.size w2 w8) := Below.call T7.out hb8
  clear hb8
  gi_wp2_with fail
  refine ⟨trivial, ?_⟩
  gi_wp2_with fail
  refine ⟨trivial, ?_⟩
  gi_wp2_with fail
  refine ⟨trivial, (callsIn_wide.2 (refpieces_any ac q cc C lo hi w8 (RC.out _ T8.out) (by omega))).mono ?_⟩
  rintro e w11 ⟨v11, rfl, ho11, hb11⟩
  rw [HP.out] at ho11
  obtain ⟨aw, cw, rfl⟩ := ho11.shapeN np HNP.out
  have hal := below_a w11 (.cells #[.slice aw np cw] 22)
  have hbox := Boxed.new w11 22 (.slice aw np cw)
  obtain ⟨w12, hw12⟩ : ∃ z, w11.alloc (.cells #[.slice aw np cw] 22) = z := ⟨_, rfl⟩
  obtain ⟨wb, hwb⟩ : ∃ z, w11.heap.size = z := ⟨_, rfl⟩
  rw [hw12] at hal hbox
  rw [hwb] at hbox
  have T12 : Hid (Below w2.heap.size w2 w12) := Below.call T8.out (Below.call hb11 hal)
  have RW : Hid (∀ z, Below w12.heap.size w12 z → RdS Rg.cells 3 z aw np cw P) := fun z hb => ((ho11.below hal).below hb).rd rgC
  have KW := Lib.hid hbox
  clear ho11 hb11 hal hbox
  gi_wp2_with (first | (rw [hw12]) | fail)
  refine ⟨trivial, (callsIn_wide.2 (pieces_any ac q cc C lo hi w12 (RC.out _ T12.out) (by omega))).mono ?_⟩
  rintro e W0 ⟨v, rfl, hPc, hO, hb0⟩
  have p18 := boxed_below KW.out hb0 KW.out.lt
  have p20 := Boxed.new W0 3 (.int .i64 0)
  gi_wp2

  have hlt := hPc.hi.lt
  have K11 := boxed_below (boxed_below R5.out (Below.call S2.out T12.out) (by have := HLT.out; omega)) hb0 (boxed_below R5.out (Below.call S2.out T12.out) (by have := HLT.out; omega)).lt
  have K12 := boxed_below (boxed_below RA.out (Below.call S2.out T12.out) HLT.out) hb0 (boxed_below RA.out (Below.call S2.out T12.out) HLT.out).lt
  have hbW1 := below_a W0 (.cells #[.int .i64 0] 3)
  refine wpIn_rangeFunc_ownG rfl (by decide) (gf := 32) (lb := #[.pointer (some ⟨w12.heap.size, 0, none⟩), .pointer (some ⟨w12.heap.size + 1, 0, none⟩), .pointer (some ⟨w12.heap.size + 2, 0, none⟩)]) rfl trivial (enters_of Try.func32 (by kernel_rfl) rfl)
    (pieces_stops Fence.wide (6 - 1) trivial rfl (by decide) w12.heap.size W0.heap.size v C lo hi W0 (by have := HQ.out; omega) hPc hO hlt (Nat.le_refl _) (fun g hg => (hO.at_base g hg).2)) Amid.trans (amid_b (by simp)) hbW1 (fun _ => rfl)
    (fun pre W => LkI W0 pre.length W)
    (fun c pre W => c = .exit 0 ∧ LkI W0 pre.length W)
    (lkI_own (fun pre : List Rg => (pre.length : Int)) (by simp))
    (fun c => OwnFrom.and (ownFrom_pure _ (fun _ => c = .exit 0)) (lkI_own (fun pre : List Rg => (pre.length : Int)) (by simp)))
    ⟨p20, hbW1⟩
    (fun x => { tmps := #[.slice a0 n c0, .int .i64 page, .int .i64 lo, .int .i64 hi, .int .i64 ways, .int .i64 stop, undef, undef, undef, undef, undef, .pointer (some ⟨hb, 0, none⟩), .pointer (some ⟨hb + 1, 0, none⟩), .slice ac q cc, .pointer (some ⟨xb, 0, none⟩), .bool FB, .pointer (some ⟨yb, 0, none⟩), .bool FB, .pointer (some ⟨wb, 0, none⟩), .func (.func 32) #[] #[.pointer (some ⟨w12.heap.size, 0, none⟩), .pointer (some ⟨w12.heap.size + 1, 0, none⟩), .pointer (some ⟨w12.heap.size + 2, 0, none⟩)], .pointer (some ⟨W0.heap.size, 0, none⟩), undef, .bool true, .bool false, .slice a0 n c0, .int .i64 n, .bool false, .bool false, .int .i64 hi, .bool false, .bool false, .slice a0 n c0, .slice ac q cc, .tuple #[.agg #[.int .i64 fl, .int .i64 fh, .int .i64 fp], .bool FB], .slice ac q cc, .int .i64 page, .tuple #[.agg #[.int .i64 fl, .int .i64 fh, .int .i64 fp], .bool FB], .agg #[.int .i64 fl, .int .i64 fh, .int .i64 fp], .bool FB, .tuple #[.agg #[.int .i64 fl, .int .i64 fh, .int .i64 fp], .bool FB], .slice ac q cc, .int .i64 page, .tuple #[.agg #[.int .i64 fl, .int .i64 fh, .int .i64 fp], .bool FB], .agg #[.int .i64 fl, .int .i64 fh, .int .i64 fp], .bool FB, .agg #[.int .i64 fl, .int .i64 fh, .int .i64 fp], .agg #[.int .i64 fl, .int .i64 fh, .int .i64 fp], .bool false, .bool false, .bool FB, .bool FB, .bool false, .bool false, .bool false, .slice ac q cc, .int .i64 PC, .slice ac q cc, .int .i64 PC, .bool false, .bool false, .int .i64 ways, .bool false, .bool false, undef, undef, .bool false, .bool false, undef, undef, .bool false, .bool false, undef, undef, undef, undef, undef, undef, undef, undef, undef, undef, undef, .bool false, .slice ac q cc, .int .i64 lo, .int .i64 hi, .slice aw np cw, .slice ac q cc, .int .i64 lo, .int .i64 hi, .func (.func 32) #[] #[.pointer (some ⟨w12.heap.size, 0, none⟩), .pointer (some ⟨w12.heap.size + 1, 0, none⟩), .pointer (some ⟨w12.heap.size + 2, 0, none⟩)], .func (.func 32) #[] #[.pointer (some ⟨w12.heap.size, 0, none⟩), .pointer (some ⟨w12.heap.size + 1, 0, none⟩), .pointer (some ⟨w12.heap.size + 2, 0, none⟩)], x.val, undef, undef, undef, undef, undef, undef, undef, undef, undef, undef, undef, undef, undef, undef, undef, undef, undef, undef, undef, undef, undef, undef, undef, undef, undef], defers := [] })
    ?assign ?body ?done ?stop
  case assign =>
    intro l x W K hK
    gi_wp2
    simpa using hK
  case body =>
    rintro l pre x W ⟨q0, hB⟩ hlt2
    have hlen : pre.length < 1000 := by
      have := piecesL_le C C.length lo hi
      rw [List.take_length] at this
      have := HQ.out
      omega
    obtain ⟨k, hk⟩ : ∃ k, pre.length = k := ⟨_, rfl⟩
    rw [hk] at q0 hlen
    have hw : IntKind.i64.wrap ((k : Int) + 1) = (k : Int) + 1 := IntWalk.i64_in _ (by omega)
    have hk2 : (((pre ++ [x]).length : Nat) : Int) = (k : Int) + 1 := by rw [List.length_append, hk]; simp
    have HK2 := Lib.hid hk2
    have cq0 := q0.cell
    have fq0 := q0.frozen
    have k11 := boxed_below K11 hB K11.lt
    have c11 := (k11.other (B' := W0.heap.size) (by have := K11.lt; omega) (.int .i64 ((k : Int) + 1))).cell
    have c20 := (q0.set (.int .i64 ((k : Int) + 1))).cell
    have hB2 := hB.setCell (p := ⟨W0.heap.size, 0, none⟩) (Nat.le_refl _) (.int .i64 ((k : Int) + 1))
    clear hk hk2 hlt2
    by_cases hs : stop < (k : Int) + 1
    · have hs : decide (stop < (k : Int) + 1) = true := decide_eq_true hs
      gi_wp2
      exact ⟨(KeepsOthers.setCell _ _ _).from _, rfl, by show LkI _ _ _; rw [HK2.out]; exact ⟨q0.set _, hB2⟩⟩
    · have hs : decide (stop < (k : Int) + 1) = false := decide_eq_false hs
      gi_wp2
      exact ⟨(KeepsOthers.setCell _ _ _).from _, (Amid.refl _ _ W).setCell ⟨W0.heap.size, 0, none⟩ (.inr (Nat.le_refl _)) _, by show LkI _ _ _; rw [HK2.out]; exact ⟨q0.set _, hB2⟩⟩
  case done =>
    rintro D ys W hD hys ⟨q0, hB⟩ hK
    have cq0 := q0.cell
    have fq0 := q0.frozen
    gi_wp2
    have hx := q0.set (.int .i64 0)
    have hb1 := hB.setCell (p := ⟨W0.heap.size, 0, none⟩) (Nat.le_refl _) (.int .i64 0)
    have hk1 := (KeepsOthers.setCell W ⟨W0.heap.size, 0, none⟩ (.int .i64 0)).same D _ hK rfl
    obtain ⟨W1, hW1⟩ : ∃ z, W.setCell ⟨W0.heap.size, 0, none⟩ (.int .i64 0) = z := ⟨_, rfl⟩
    rw [hW1] at hx hb1 hk1 ⊢
    have hs1 : W0.heap.size < W1.heap.size := hx.lt
    have hDl : D < W1.heap.size := (Array.getElem?_eq_some_iff.1 hk1).1
    have hnpl : (piecesL C lo hi).length = np := by rw [HP.out]; exact HNP.out
    have hOwn : OwnFrom W1.heap.size (fun (pre : List Rg) (X : World) => (pre = P.take pre.length ∧ LkI W0 pre.length X) ∧ X.heap[D]? = some (.deferred (some [])) ∧ W1.heap.size ≤ X.heap.size) := (fun s X Y row hs hg hr => ⟨⟨hs.1.1, lkI_own (fun pre : List Rg => (pre.length : Int)) (Nat.le_of_lt hs1) s X Y row hs.1.2 hg hr⟩, (hg.block D (Array.getElem?_eq_some_iff.1 hs.2.1).1 (fun e => by have := (hr D e.symm).1; omega)).trans hs.2.1, Nat.le_trans hs.2.2 hg.size⟩)
    refine wpIn_rangeFunc_ownH rfl (by decide) (gf := 32) (lb := #[.pointer (some ⟨w12.heap.size, 0, none⟩), .pointer (some ⟨w12.heap.size + 1, 0, none⟩), .pointer (some ⟨w12.heap.size + 2, 0, none⟩)]) rfl trivial (enters_of Try.func32 (by kernel_rfl) rfl)
      (pieces_stops Fence.wide (6 - 1) trivial rfl (by decide) w12.heap.size W0.heap.size v C lo hi W1 (by have := HQ.out; omega) (hPc.below hb1 hlt) (hO.below hb1) hlt (Nat.le_of_lt hs1) (fun g hg => (hO.at_base g hg).2)) Amid.trans (amid_b (Nat.le_of_lt hs1)) (Below.refl _ _) (fun _ => rfl)
      (fun pre X => (pre = P.take pre.length ∧ LkI W0 pre.length X) ∧ X.heap[D]? = some (.deferred (some [])) ∧ W1.heap.size ≤ X.heap.size)
      (fun c pre X => ¬ pre <+: P)
      hOwn
      (fun c => fun _ _ _ _ hs _ _ => hs)
      ⟨⟨by simp, hx, hb1⟩, hk1, Nat.le_refl _⟩
      (fun x a' X => ∃ Bx, W1.heap.size ≤ Bx ∧ X.heap[Bx]? = some (.cells #[.int .i64 x.lo, .int .i64 x.hi, .int .i64 x.p] 29 (0, 0)) ∧ a' = { tmps := #[.slice a0 n c0, .int .i64 page, .int .i64 lo, .int .i64 hi, .int .i64 ways, .int .i64 stop, undef, undef, undef, undef, undef, .pointer (some ⟨hb, 0, none⟩), .pointer (some ⟨hb + 1, 0, none⟩), .slice ac q cc, .pointer (some ⟨xb, 0, none⟩), .bool FB, .pointer (some ⟨yb, 0, none⟩), .bool FB, .pointer (some ⟨wb, 0, none⟩), .func (.func 32) #[] #[.pointer (some ⟨w12.heap.size, 0, none⟩), .pointer (some ⟨w12.heap.size + 1, 0, none⟩), .pointer (some ⟨w12.heap.size + 2, 0, none⟩)], .pointer (some ⟨W0.heap.size, 0, none⟩), .pointer (some ⟨Bx, 0, none⟩), .bool true, .bool false, .slice a0 n c0, .int .i64 n, .bool false, .bool false, .int .i64 hi, .bool false, .bool false, .slice a0 n c0, .slice ac q cc, .tuple #[.agg #[.int .i64 fl, .int .i64 fh, .int .i64 fp], .bool FB], .slice ac q cc, .int .i64 page, .tuple #[.agg #[.int .i64 fl, .int .i64 fh, .int .i64 fp], .bool FB], .agg #[.int .i64 fl, .int .i64 fh, .int .i64 fp], .bool FB, .tuple #[.agg #[.int .i64 fl, .int .i64 fh, .int .i64 fp], .bool FB], .slice ac q cc, .int .i64 page, .tuple #[.agg #[.int .i64 fl, .int .i64 fh, .int .i64 fp], .bool FB], .agg #[.int .i64 fl, .int .i64 fh, .int .i64 fp], .bool FB, .agg #[.int .i64 fl, .int .i64 fh, .int .i64 fp], .agg #[.int .i64 fl, .int .i64 fh, .int .i64 fp], .bool false, .bool false, .bool FB, .bool FB, .bool false, .bool false, .bool false, .slice ac q cc, .int .i64 PC, .slice ac q cc, .int .i64 PC, .bool false, .bool false, .int .i64 ways, .bool false, .bool false, undef, undef, .bool false, .bool false, undef, undef, .bool false, .bool false, undef, undef, undef, undef, undef, undef, undef, undef, undef, undef, undef, .bool false, .slice ac q cc, .int .i64 lo, .int .i64 hi, .slice aw np cw, .slice ac q cc, .int .i64 lo, .int .i64 hi, .func (.func 32) #[] #[.pointer (some ⟨w12.heap.size, 0, none⟩), .pointer (some ⟨w12.heap.size + 1, 0, none⟩), .pointer (some ⟨w12.heap.size + 2, 0, none⟩)], .func (.func 32) #[] #[.pointer (some ⟨w12.heap.size, 0, none⟩), .pointer (some ⟨w12.heap.size + 1, 0, none⟩), .pointer (some ⟨w12.heap.size + 2, 0, none⟩)], undef, undef, undef, undef, undef, undef, .func (.func 32) #[] #[.pointer (some ⟨w12.heap.size, 0, none⟩), .pointer (some ⟨w12.heap.size + 1, 0, none⟩), .pointer (some ⟨w12.heap.size + 2, 0, none⟩)], x.val, undef, undef, undef, undef, undef, undef, undef, undef, undef, undef, undef, undef, undef, undef, undef, undef, undef, undef], defers := [] })
      (fun x a' _ X Y row hs hg hr => by obtain ⟨Bx, h1, h2, h3⟩ := hs; exact ⟨Bx, h1, row_own h2 hg (fun r e => (hr r e).2), h3⟩)
      ?assign1 ?body1 ?done1 ?stop1
    case assign1 =>
      rintro l pre x X K hI hK
      obtain ⟨xl, xh, xp⟩ := x
      dsimp only [Rg.val] at hK ⊢
      gi_wp2
      exact hK _ _ ((KeepsOthers.alloc _ _).from _) (Amid.below (below_a _ _) (Nat.le_trans (Nat.le_of_lt hs1) hI.2.2)) (hOwn _ _ _ none hI (World.grownBy_alloc _ _ none) (fun r e => by cases e)) ⟨X.heap.size, hI.2.2, heap_alloc_new _ _, rfl⟩
    case stop1 =>
      rintro D2 c pre X hD2 hpre hs hK2
      rw [HP.out] at hpre
      exact (hs hpre).elim
    case done1 =>
      rintro D2 ys X hD2 hys ⟨⟨_, q2, hB2⟩, hk2, hsz2⟩ hK2
      have hyl : ys.length = np := by rw [hys]; exact hnpl
      rw [hyl] at q2
      have cq2 := q2.cell
      have k18 := (boxed_below p18 hB2 p18.lt).cell
      have k12 := boxed_below K12 hB2 K12.lt
      have ck12 := k12.cell
      have fk12 := k12.frozen
      gi_wp2
      have hz1 := (KeepsOthers.setCell X ⟨hb + 1, 0, none⟩ (.bool true)).same D2 _ hK2 rfl
      have hz2 := (KeepsOthers.setCell X ⟨hb + 1, 0, none⟩ (.bool true)).same D _ hk2 rfl
      have hw2 : Below w.heap.size w (X.setCell ⟨hb + 1, 0, none⟩ (.bool true)) := (Below.call (Below.call (Below.call BA.out S2.out) (Below.call T12.out hb0)) hB2).setCell (p := ⟨hb + 1, 0, none⟩) (by show w.heap.size ≤ hb + 1; rw [HRB.out]; omega) _
      have hwD : w.heap.size ≤ D := by have h1 := (Below.call (Below.call BA.out S2.out) (Below.call T12.out hb0)).size; simp at hD; omega
      have hz3 : ((X.setCell ⟨hb + 1, 0, none⟩ (.bool true)).putObj D2 (.deferred none)).heap[D]? = some (.deferred (some [])) := by rw [World.putObj_heap_other (by omega)]; exact hz2
      refine ⟨by simp, .inl ⟨_, _, rfl, run_takeDeferred hz1, ⟨by simp, .inl ⟨_, _, rfl, run_takeDeferred hz3, ?_⟩⟩⟩⟩
      have hc5 := cell_kept (cell_kept (k12.set (.bool true)).cell (grownBy_putObj' _ D2 (.deferred none)) (fun r e => by cases e; exact ⟨_, hz1, rfl⟩)) (grownBy_putObj' _ D (.deferred none)) (fun r e => by cases e; exact ⟨_, hz3, rfl⟩)
      refine ⟨.bool true, ?_, rfl, (hw2.trans (belowK_b (w := w) (Nat.le_refl _) _ D2 _ _ (by omega) hz1 rfl rfl)).trans (belowK_b (w := w) (Nat.le_refl _) _ D _ _ hwD hz3 rfl rfl)⟩
      simp [results, Try.f6, go_sem, hc5]
    case body1 =>
      rintro l pre x a' X hl ⟨r, hr⟩ ⟨⟨hpre, q2, hB2⟩, hk2, hsz2⟩ ⟨Bx, hBx, hX, rfl⟩ hlt2
      rw [hnpl] at hlt2
      obtain ⟨k, hk⟩ : ∃ k, pre.length = k := ⟨_, rfl⟩
      rw [hk] at hpre q2 hlt2
      have hPl := HNP.out
      obtain ⟨y, hy⟩ : ∃ y, P[k]? = some y := ⟨P[k], List.getElem?_eq_getElem (by omega)⟩
      obtain ⟨g, o', ea, z0, z1, z2⟩ := (RW.out X (Below.call hb0 hB2)).three k y hy
      subst ea
      have hlen2 : (pre ++ [x]).length = k + 1 := by rw [List.length_append, hk]; rfl
      have HYES : Hid (x = y → pre ++ [x] = P.take (pre ++ [x]).length) := fun e => by
        rw [hlen2, List.take_add_one, hy, ← hpre, e]
        rfl
      have HNO : Hid (x ≠ y → ¬ (pre ++ [x]) <+: P) := fun hne hp => by
        obtain ⟨t, ht⟩ := hp
        rw [← ht, List.append_assoc, List.getElem?_append_right (by omega), hk] at hy
        simp at hy
        exact hne hy
      have hw : IntKind.i64.wrap ((k : Int) + 1) = (k : Int) + 1 := IntWalk.i64_in _ (by omega)
      have hlen3 : (((pre ++ [x]).length : Nat) : Int) = (k : Int) + 1 := by rw [hlen2]; simp
      have HLEN := Lib.hid hlen3
      have hkp : k < np := hlt2
      have cq2 := q2.cell
      have fq2 := q2.frozen
      have k18 := (boxed_below p18 hB2 p18.lt).cell
      have k12 := boxed_below K12 hB2 K12.lt
      have ck12 := k12.cell
      have fk12 := k12.frozen
      have dge : decide ((np : Int) ≤ (k : Int)) = false := decide_eq_false (by omega)
      have dge2 : decide (np ≤ k) = false := decide_eq_false (by omega)
      obtain ⟨x0, x1, x2⟩ := cells3 hX
      have HQ2 := Lib.hid q2
      have HBB := Lib.hid hB2
      have HKK := Lib.hid hk2
      have HSS := Lib.hid hsz2
      clear hy hpre hk hlen2 hlen3 hPl hlt2 q2 hB2 hk2 hsz2
      obtain ⟨xl, xh, xp⟩ := x
      obtain ⟨yl, yh, yp⟩ := y
      dsimp only at x0 x1 x2 z0 z1 z2
      have hmix : Try.prog.follows .mixedOrders = true := by kernel_rfl
      by_cases a1 : yl = xl
      · by_cases a2 : yh = xh
        · by_cases a3 : yp = xp
          · subst a1 a2 a3
            have HE := Lib.hid (HYES.out rfl)
            gi_wp2
            refine wpIn_round_quiet_lit (by kernel_rfl) rfl (by kernel_rfl) (by kernel_rfl) ?_
            repeat (gi_big_quiet_step (fail))
            refine wpQuietIn_nil ?_
            intro _ hw'
            obtain ⟨nq, hw''⟩ := hw'
            subst hw''
            gi_wp2
            have hd0 : KeepsOthers X (X.drewN nq) := ⟨Nat.le_refl _, fun _ _ h _ => h⟩
            have hd1 := hd0.trans (KeepsOthers.setCell (X.drewN nq) ⟨W0.heap.size, 0, none⟩ (.int .i64 ((k : Int) + 1)))
            have hq3 : Boxed (X.drewN nq) W0.heap.size 3 (.int .i64 k) := HQ2.out
            have hb3 : Below W0.heap.size W0 (X.drewN nq) := belowN HBB.out nq
            have hm3 : Amid w12.heap.size W0.heap.size X (X.drewN nq) := ⟨Nat.le_refl _, fun _ _ _ => rfl⟩
            refine ⟨hd1.from _, hm3.setCell ⟨W0.heap.size, 0, none⟩ (.inr (Nat.le_refl _)) _, ⟨HE.out, ?_⟩, hd1.same D _ HKK.out rfl, by simpa using HSS.out⟩
            show LkI _ _ _
            rw [HLEN.out]
            exact ⟨hq3.set _, hb3.setCell (p := ⟨W0.heap.size, 0, none⟩) (Nat.le_refl _) _⟩
          · subst a1 a2
            have hne : Hid ((⟨yl, yh, xp⟩ : Rg) ≠ ⟨yl, yh, yp⟩) := fun e => by injection e with _ _ e; exact a3 e.symm
            have e1 : (yp == xp) = false := beq_eq_false_iff_ne.2 a3
            have HNE := Lib.hid (HNO.out hne.out)
            gi_wp2
            refine wpIn_round_quiet_lit (by kernel_rfl) rfl (by kernel_rfl) (by kernel_rfl) ?_
            repeat (gi_big_quiet_step (fail))
            refine wpQuietIn_nil ?_
            intro _ hw'
            obtain ⟨nq, hw''⟩ := hw'
            subst hw''
            gi_wp2
            have hd0 : KeepsOthers X (X.drewN nq) := ⟨Nat.le_refl _, fun _ _ h _ => h⟩
            exact ⟨(hd0.trans (KeepsOthers.setCell (X.drewN nq) ⟨hb + 1, 0, none⟩ (.bool false))).from _, HNE.out⟩
        · subst a1
          have hne : Hid ((⟨yl, xh, xp⟩ : Rg) ≠ ⟨yl, yh, yp⟩) := fun e => by injection e with _ e _; exact a2 e.symm
          have e1 : (yh == xh) = false := beq_eq_false_iff_ne.2 a2
          have HNE := Lib.hid (HNO.out hne.out)
          gi_wp2
          refine wpIn_round_quiet_lit (by kernel_rfl) rfl (by kernel_rfl) (by kernel_rfl) ?_
          repeat (gi_big_quiet_step (fail))
          refine wpQuietIn_nil ?_
          intro _ hw'
          obtain ⟨nq, hw''⟩ := hw'
          subst hw''
          gi_wp2
          have hd0 : KeepsOthers X (X.drewN nq) := ⟨Nat.le_refl _, fun _ _ h _ => h⟩
          exact ⟨(hd0.trans (KeepsOthers.setCell (X.drewN nq) ⟨hb + 1, 0, none⟩ (.bool false))).from _, HNE.out⟩
      · have hne : Hid ((⟨xl, xh, xp⟩ : Rg) ≠ ⟨yl, yh, yp⟩) := fun e => by injection e with e _ _; exact a1 e.symm
        have e1 : (yl == xl) = false := beq_eq_false_iff_ne.2 a1
        have HNE := Lib.hid (HNO.out hne.out)
        gi_wp2
        refine wpIn_round_quiet_lit (by kernel_rfl) rfl (by kernel_rfl) (by kernel_rfl) ?_
        repeat (gi_big_quiet_step (fail))
        refine wpQuietIn_nil ?_
        intro _ hw'
        obtain ⟨nq, hw''⟩ := hw'
        subst hw''
        gi_wp2
        have hd0 : KeepsOthers X (X.drewN nq) := ⟨Nat.le_refl _, fun _ _ h _ => h⟩
        exact ⟨(hd0.trans (KeepsOthers.setCell (X.drewN nq) ⟨hb + 1, 0, none⟩ (.bool false))).from _, HNE.out⟩
  case stop =>
    rintro D c pre W hD _ ⟨rfl, q0, hB⟩ hK
    have cq0 := q0.cell
    have fq0 := q0.frozen
    gi_wp2
    have hx := q0.set (.int .i64 0)
    have hb1 := hB.setCell (p := ⟨W0.heap.size, 0, none⟩) (Nat.le_refl _) (.int .i64 0)
    have hk1 := (KeepsOthers.setCell W ⟨W0.heap.size, 0, none⟩ (.int .i64 0)).same D _ hK rfl
    obtain ⟨W1, hW1⟩ : ∃ z, W.setCell ⟨W0.heap.size, 0, none⟩ (.int .i64 0) = z := ⟨_, rfl⟩
    rw [hW1] at hx hb1 hk1 ⊢
    have hs1 : W0.heap.size < W1.heap.size := hx.lt
    have hDl : D < W1.heap.size := (Array.getElem?_eq_some_iff.1 hk1).1
    have hnpl : (piecesL C lo hi).length = np := by rw [HP.out]; exact HNP.out
    have hOwn : OwnFrom W1.heap.size (fun (pre : List Rg) (X : World) => (pre = P.take pre.length ∧ LkI W0 pre.length X) ∧ X.heap[D]? = some (.deferred (some [])) ∧ W1.heap.size ≤ X.heap.size) := (fun s X Y row hs hg hr => ⟨⟨hs.1.1, lkI_own (fun pre : List Rg => (pre.length : Int)) (Nat.le_of_lt hs1) s X Y row hs.1.2 hg hr⟩, (hg.block D (Array.getElem?_eq_some_iff.1 hs.2.1).1 (fun e => by have := (hr D e.symm).1; omega)).trans hs.2.1, Nat.le_trans hs.2.2 hg.size⟩)
    refine wpIn_rangeFunc_ownH rfl (by decide) (gf := 32) (lb := #[.pointer (some ⟨w12.heap.size, 0, none⟩), .pointer (some ⟨w12.heap.size + 1, 0, none⟩), .pointer (some ⟨w12.heap.size + 2, 0, none⟩)]) rfl trivial (enters_of Try.func32 (by kernel_rfl) rfl)
      (pieces_stops Fence.wide (6 - 1) trivial rfl (by decide) w12.heap.size W0.heap.size v C lo hi W1 (by have := HQ.out; omega) (hPc.below hb1 hlt) (hO.below hb1) hlt (Nat.le_of_lt hs1) (fun g hg => (hO.at_base g hg).2)) Amid.trans (amid_b (Nat.le_of_lt hs1)) (Below.refl _ _) (fun _ => rfl)
      (fun pre X => (pre = P.take pre.length ∧ LkI W0 pre.length X) ∧ X.heap[D]? = some (.deferred (some [])) ∧ W1.heap.size ≤ X.heap.size)
      (fun c pre X => ¬ pre <+: P)
      hOwn
      (fun c => fun _ _ _ _ hs _ _ => hs)
      ⟨⟨by simp, hx, hb1⟩, hk1, Nat.le_refl _⟩
      (fun x a' X => ∃ Bx, W1.heap.size ≤ Bx ∧ X.heap[Bx]? = some (.cells #[.int .i64 x.lo, .int .i64 x.hi, .int .i64 x.p] 29 (0, 0)) ∧ a' = { tmps := #[.slice a0 n c0, .int .i64 page, .int .i64 lo, .int .i64 hi, .int .i64 ways, .int .i64 stop, undef, undef, undef, undef, undef, .pointer (some ⟨hb, 0, none⟩), .pointer (some ⟨hb + 1, 0, none⟩), .slice ac q cc, .pointer (some ⟨xb, 0, none⟩), .bool FB, .pointer (some ⟨yb, 0, none⟩), .bool FB, .pointer (some ⟨wb, 0, none⟩), .func (.func 32) #[] #[.pointer (some ⟨w12.heap.size, 0, none⟩), .pointer (some ⟨w12.heap.size + 1, 0, none⟩), .pointer (some ⟨w12.heap.size + 2, 0, none⟩)], .pointer (some ⟨W0.heap.size, 0, none⟩), .pointer (some ⟨Bx, 0, none⟩), .bool true, .bool false, .slice a0 n c0, .int .i64 n, .bool false, .bool false, .int .i64 hi, .bool false, .bool false, .slice a0 n c0, .slice ac q cc, .tuple #[.agg #[.int .i64 fl, .int .i64 fh, .int .i64 fp], .bool FB], .slice ac q cc, .int .i64 page, .tuple #[.agg #[.int .i64 fl, .int .i64 fh, .int .i64 fp], .bool FB], .agg #[.int .i64 fl, .int .i64 fh, .int .i64 fp], .bool FB, .tuple #[.agg #[.int .i64 fl, .int .i64 fh, .int .i64 fp], .bool FB], .slice ac q cc, .int .i64 page, .tuple #[.agg #[.int .i64 fl, .int .i64 fh, .int .i64 fp], .bool FB], .agg #[.int .i64 fl, .int .i64 fh, .int .i64 fp], .bool FB, .agg #[.int .i64 fl, .int .i64 fh, .int .i64 fp], .agg #[.int .i64 fl, .int .i64 fh, .int .i64 fp], .bool false, .bool false, .bool FB, .bool FB, .bool false, .bool false, .bool false, .slice ac q cc, .int .i64 PC, .slice ac q cc, .int .i64 PC, .bool false, .bool false, .int .i64 ways, .bool false, .bool false, undef, undef, .bool false, .bool false, undef, undef, .bool false, .bool false, undef, undef, undef, undef, undef, undef, undef, undef, undef, undef, undef, .bool false, .slice ac q cc, .int .i64 lo, .int .i64 hi, .slice aw np cw, .slice ac q cc, .int .i64 lo, .int .i64 hi, .func (.func 32) #[] #[.pointer (some ⟨w12.heap.size, 0, none⟩), .pointer (some ⟨w12.heap.size + 1, 0, none⟩), .pointer (some ⟨w12.heap.size + 2, 0, none⟩)], .func (.func 32) #[] #[.pointer (some ⟨w12.heap.size, 0, none⟩), .pointer (some ⟨w12.heap.size + 1, 0, none⟩), .pointer (some ⟨w12.heap.size + 2, 0, none⟩)], undef, undef, undef, undef, undef, undef, .func (.func 32) #[] #[.pointer (some ⟨w12.heap.size, 0, none⟩), .pointer (some ⟨w12.heap.size + 1, 0, none⟩), .pointer (some ⟨w12.heap.size + 2, 0, none⟩)], x.val, undef, undef, undef, undef, undef, undef, undef, undef, undef, undef, undef, undef, undef, undef, undef, undef, undef, undef], defers := [] })
      (fun x a' _ X Y row hs hg hr => by obtain ⟨Bx, h1, h2, h3⟩ := hs; exact ⟨Bx, h1, row_own h2 hg (fun r e => (hr r e).2), h3⟩)
      ?assign2 ?body2 ?done2 ?stop2
    case assign2 =>
      rintro l pre x X K hI hK
      obtain ⟨xl, xh, xp⟩ := x
      dsimp only [Rg.val] at hK ⊢
      gi_wp2
      exact hK _ _ ((KeepsOthers.alloc _ _).from _) (Amid.below (below_a _ _) (Nat.le_trans (Nat.le_of_lt hs1) hI.2.2)) (hOwn _ _ _ none hI (World.grownBy_alloc _ _ none) (fun r e => by cases e)) ⟨X.heap.size, hI.2.2, heap_alloc_new _ _, rfl⟩
    case stop2 =>
      rintro D2 c pre X hD2 hpre hs hK2
      rw [HP.out] at hpre
      exact (hs hpre).elim
    case done2 =>
      rintro D2 ys X hD2 hys ⟨⟨_, q2, hB2⟩, hk2, hsz2⟩ hK2
      have hyl : ys.length = np := by rw [hys]; exact hnpl
      rw [hyl] at q2
      have cq2 := q2.cell
      have k18 := (boxed_below p18 hB2 p18.lt).cell
      have k12 := boxed_below K12 hB2 K12.lt
      have ck12 := k12.cell
      have fk12 := k12.frozen
      gi_wp2
      have hz1 := (KeepsOthers.setCell X ⟨hb + 1, 0, none⟩ (.bool true)).same D2 _ hK2 rfl
      have hz2 := (KeepsOthers.setCell X ⟨hb + 1, 0, none⟩ (.bool true)).same D _ hk2 rfl
      have hw2 : Below w.heap.size w (X.setCell ⟨hb + 1, 0, none⟩ (.bool true)) := (Below.call (Below.call (Below.call BA.out S2.out) (Below.call T12.out hb0)) hB2).setCell (p := ⟨hb + 1, 0, none⟩) (by show w.heap.size ≤ hb + 1; rw [HRB.out]; omega) _
      have hwD : w.heap.size ≤ D := by have h1 := (Below.call (Below.call BA.out S2.out) (Below.call T12.out hb0)).size; simp at hD; omega
      have hz3 : ((X.setCell ⟨hb + 1, 0, none⟩ (.bool true)).putObj D2 (.deferred none)).heap[D]? = some (.deferred (some [])) := by rw [World.putObj_heap_other (by omega)]; exact hz2
      refine ⟨by simp, .inl ⟨_, _, rfl, run_takeDeferred hz1, ⟨by simp, .inl ⟨_, _, rfl, run_takeDeferred hz3, ?_⟩⟩⟩⟩
      have hc5 := cell_kept (cell_kept (k12.set (.bool true)).cell (grownBy_putObj' _ D2 (.deferred none)) (fun r e => by cases e; exact ⟨_, hz1, rfl⟩)) (grownBy_putObj' _ D (.deferred none)) (fun r e => by cases e; exact ⟨_, hz3, rfl⟩)
      refine ⟨.bool true, ?_, rfl, (hw2.trans (belowK_b (w := w) (Nat.le_refl _) _ D2 _ _ (by omega) hz1 rfl rfl)).trans (belowK_b (w := w) (Nat.le_refl _) _ D _ _ hwD hz3 rfl rfl)⟩
      simp [results, Try.f6, go_sem, hc5]
    case body2 =>
      rintro l pre x a' X hl ⟨r, hr⟩ ⟨⟨hpre, q2, hB2⟩, hk2, hsz2⟩ ⟨Bx, hBx, hX, rfl⟩ hlt2
      rw [hnpl] at hlt2
      obtain ⟨k, hk⟩ : ∃ k, pre.length = k := ⟨_, rfl⟩
      rw [hk] at hpre q2 hlt2
      have hPl := HNP.out
      obtain ⟨y, hy⟩ : ∃ y, P[k]? = some y := ⟨P[k], List.getElem?_eq_getElem (by omega)⟩
      obtain ⟨g, o', ea, z0, z1, z2⟩ := (RW.out X (Below.call hb0 hB2)).three k y hy
      subst ea
      have hlen2 : (pre ++ [x]).length = k + 1 := by rw [List.length_append, hk]; rfl
      have HYES : Hid (x = y → pre ++ [x] = P.take (pre ++ [x]).length) := fun e => by
        rw [hlen2, List.take_add_one, hy, ← hpre, e]
        rfl
      have HNO : Hid (x ≠ y → ¬ (pre ++ [x]) <+: P) := fun hne hp => by
        obtain ⟨t, ht⟩ := hp
        rw [← ht, List.append_assoc, List.getElem?_append_right (by omega), hk] at hy
        simp at hy
        exact hne hy
      have hw : IntKind.i64.wrap ((k : Int) + 1) = (k : Int) + 1 := IntWalk.i64_in _ (by omega)
      have hlen3 : (((pre ++ [x]).length : Nat) : Int) = (k : Int) + 1 := by rw [hlen2]; simp
      have HLEN := Lib.hid hlen3
      have hkp : k < np := hlt2
      have cq2 := q2.cell
      have fq2 := q2.frozen
      have k18 := (boxed_below p18 hB2 p18.lt).cell
      have k12 := boxed_below K12 hB2 K12.lt
      have ck12 := k12.cell
      have fk12 := k12.frozen
      have dge : decide ((np : Int) ≤ (k : Int)) = false := decide_eq_false (by omega)
      have dge2 : decide (np ≤ k) = false := decide_eq_false (by omega)
      obtain ⟨x0, x1, x2⟩ := cells3 hX
      have HQ2 := Lib.hid q2
      have HBB := Lib.hid hB2
      have HKK := Lib.hid hk2
      have HSS := Lib.hid hsz2
      clear hy hpre hk hlen2 hlen3 hPl hlt2 q2 hB2 hk2 hsz2
      obtain ⟨xl, xh, xp⟩ := x
      obtain ⟨yl, yh, yp⟩ := y
      dsimp only at x0 x1 x2 z0 z1 z2
      have hmix : Try.prog.follows .mixedOrders = true := by kernel_rfl
      by_cases a1 : yl = xl
      · by_cases a2 : yh = xh
        · by_cases a3 : yp = xp
          · subst a1 a2 a3
            have HE := Lib.hid (HYES.out rfl)
            gi_wp2
            refine wpIn_round_quiet_lit (by kernel_rfl) rfl (by kernel_rfl) (by kernel_rfl) ?_
            repeat (gi_big_quiet_step (fail))
            refine wpQuietIn_nil ?_
            intro _ hw'
            obtain ⟨nq, hw''⟩ := hw'
            subst hw''
            gi_wp2
            have hd0 : KeepsOthers X (X.drewN nq) := ⟨Nat.le_refl _, fun _ _ h _ => h⟩
            have hd1 := hd0.trans (KeepsOthers.setCell (X.drewN nq) ⟨W0.heap.size, 0, none⟩ (.int .i64 ((k : Int) + 1)))
            have hq3 : Boxed (X.drewN nq) W0.heap.size 3 (.int .i64 k) := HQ2.out
            have hb3 : Below W0.heap.size W0 (X.drewN nq) := belowN HBB.out nq
            have hm3 : Amid w12.heap.size W0.heap.size X (X.drewN nq) := ⟨Nat.le_refl _, fun _ _ _ => rfl⟩
            refine ⟨hd1.from _, hm3.setCell ⟨W0.heap.size, 0, none⟩ (.inr (Nat.le_refl _)) _, ⟨HE.out, ?_⟩, hd1.same D _ HKK.out rfl, by simpa using HSS.out⟩
            show LkI _ _ _
            rw [HLEN.out]
            exact ⟨hq3.set _, hb3.setCell (p := ⟨W0.heap.size, 0, none⟩) (Nat.le_refl _) _⟩
          · subst a1 a2
            have hne : Hid ((⟨yl, yh, xp⟩ : Rg) ≠ ⟨yl, yh, yp⟩) := fun e => by injection e with _ _ e; exact a3 e.symm
            have e1 : (yp == xp) = false := beq_eq_false_iff_ne.2 a3
            have HNE := Lib.hid (HNO.out hne.out)
            gi_wp2
            refine wpIn_round_quiet_lit (by kernel_rfl) rfl (by kernel_rfl) (by kernel_rfl) ?_
            repeat (gi_big_quiet_step (fail))
            refine wpQuietIn_nil ?_
            intro _ hw'
            obtain ⟨nq, hw''⟩ := hw'
            subst hw''
            gi_wp2
            have hd0 : KeepsOthers X (X.drewN nq) := ⟨Nat.le_refl _, fun _ _ h _ => h⟩
            exact ⟨(hd0.trans (KeepsOthers.setCell (X.drewN nq) ⟨hb + 1, 0, none⟩ (.bool false))).from _, HNE.out⟩
        · subst a1
          have hne : Hid ((⟨yl, xh, xp⟩ : Rg) ≠ ⟨yl, yh, yp⟩) := fun e => by injection e with _ e _; exact a2 e.symm
          have e1 : (yh == xh) = false := beq_eq_false_iff_ne.2 a2
          have HNE := Lib.hid (HNO.out hne.out)
          gi_wp2
          refine wpIn_round_quiet_lit (by kernel_rfl) rfl (by kernel_rfl) (by kernel_rfl) ?_
          repeat (gi_big_quiet_step (fail))
          refine wpQuietIn_nil ?_
          intro _ hw'
          obtain ⟨nq, hw''⟩ := hw'
          subst hw''
          gi_wp2
          have hd0 : KeepsOthers X (X.drewN nq) := ⟨Nat.le_refl _, fun _ _ h _ => h⟩
          exact ⟨(hd0.trans (KeepsOthers.setCell (X.drewN nq) ⟨hb + 1, 0, none⟩ (.bool false))).from _, HNE.out⟩
      · have hne : Hid ((⟨xl, xh, xp⟩ : Rg) ≠ ⟨yl, yh, yp⟩) := fun e => by injection e with e _ _; exact a1 e.symm
        have e1 : (yl == xl) = false := beq_eq_false_iff_ne.2 a1
        have HNE := Lib.hid (HNO.out hne.out)
        gi_wp2
        refine wpIn_round_quiet_lit (by kernel_rfl) rfl (by kernel_rfl) (by kernel_rfl) ?_
        repeat (gi_big_quiet_step (fail))
        refine wpQuietIn_nil ?_
        intro _ hw'
        obtain ⟨nq, hw''⟩ := hw'
        subst hw''
        gi_wp2
        have hd0 : KeepsOthers X (X.drewN nq) := ⟨Nat.le_refl _, fun _ _ h _ => h⟩
        exact ⟨(hd0.trans (KeepsOthers.setCell (X.drewN nq) ⟨hb + 1, 0, none⟩ (.bool false))).from _, HNE.out⟩
end Go.Proofs.Ytoampbdipmecmaa
