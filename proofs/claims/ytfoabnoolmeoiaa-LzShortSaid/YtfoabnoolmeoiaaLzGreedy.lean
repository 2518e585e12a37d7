/- lz: the walk of greedy. -/
import Derived.Test.YtfoabnoolmeoiaaLzGw
import Derived.RangeFuncNested
import Derived.RangeFuncBound
import Derived.RangeFuncCalls
import Derived.RangeFuncLeaves
import Derived.Shelf.Abstract
import Derived.Shelf.RegionOpen
import Derived.OwnWalkIn
import Derived.TacticsInMore
namespace Go.Proofs.Ytfoabnoolmeoiaa
open Go.RowKit Go.Shelf Go.Proofs
attribute [local go_sem] Oper.semAt_some
set_option linter.unusedSimpArgs false in
set_option linter.unusedVariables false in
set_option maxRecDepth 100000 in
set_option maxHeartbeats 4000000 in
theorem greedy_any (a : Option Addr) (n c : Nat) (b : List Int) (w : World) (hr : RdAt .u8 w a n c b) (hn : n ≤ 100000) :
    Calls Try.prog 16 #[.slice a n c] w fun e w' => (∃ r l, e = .returned r ∧ Owns .u8 5 w' w.heap.size r l ∧ Hid (GOut b l)) ∧ Below w.heap.size w w' := by
  have HR := Lib.hid hr
  have hbl := hr.len
  clear hr
  refine (callsIn_wide (n := 4)).1 (callsIn_of_wp_marks Try.func16 rfl trivial (wpIn_wide.2 ?_))
  simp only [Try.ntmps16, List.size_toArray, List.length_cons, List.length_nil, Nat.reduceAdd, Nat.reduceSub, Array.replicate_succ, Array.replicate_zero, List.push_toArray, List.append_toArray, List.nil_append, List.cons_append]
  have kmm := @run_makeMap Try.prog
  go_wp2
  clear kmm
  have hW := gw_start a n c b w
  have hp1' : w.heap.size = w.heap.size := rfl
  obtain ⟨W, hWe⟩ : ∃ W, (((((w.alloc (.cells #[.slice a n c] 22)).alloc (.cells #[.int .u8 1] 5)).alloc (.map #[] 0)).alloc (.cells #[.map (some (w.heap.size + 1 + 1))] 46)).alloc (.cells #[.int .i64 0] 3)) = W := ⟨_, rfl⟩
  rw [hWe] at hW ⊢
  clear hWe
  obtain ⟨p1, hp1⟩ : ∃ p, w.heap.size = p := ⟨_, rfl⟩
  obtain ⟨row, hrow⟩ : ∃ p, p1 + 1 = p := ⟨_, rfl⟩
  obtain ⟨mb, hmb⟩ : ∃ p, p1 + 1 + 1 = p := ⟨_, rfl⟩
  obtain ⟨p4, hp4⟩ : ∃ p, p1 + 1 + 1 + 1 = p := ⟨_, rfl⟩
  obtain ⟨p6, hp6⟩ : ∃ p, p1 + 1 + 1 + 1 + 1 = p := ⟨_, rfl⟩
  rw [hp1, hp6, hp4, hmb, hrow] at hW
  rw [hp1, hp6, hp4, hmb, hrow]
  refine wp_loop (fun a' W => ∃ (at' frm cnt : Nat) (S : Int → List Int) (out : List Int) (r : Value) (Ds : List Nat), GW a n c b p1 mb p4 p6 at' frm cnt S out r Ds w W ∧ ∃ f : Nat → Value, a' = { tmps := #[.slice a n c, .pointer (some ⟨p1, 0, none⟩), .slice none 0 0, r, .pointer (some ⟨p4, 0, none⟩), .int .i64 (frm : Int), .pointer (some ⟨p6, 0, none⟩), .func (.func 20) #[] #[.pointer (some ⟨p1, 0, none⟩), .pointer (some ⟨p4, 0, none⟩)], f 8, f 9, f 10, f 11, f 12, f 13, f 14, .slice (some ⟨row, 0, none⟩) 1 1, .map (some mb), .func (.func 20) #[] #[.pointer (some ⟨p1, 0, none⟩), .pointer (some ⟨p4, 0, none⟩)], f 18, f 19, f 20, f 21, f 22, f 23, f 24, f 25, f 26, f 27, f 28, f 29, f 30, f 31, f 32, f 33, f 34, f 35, f 36, f 37, f 38, f 39, f 40, f 41, f 42, f 43, f 44, f 45, f 46, f 47, f 48, f 49, f 50, f 51, f 52, f 53, f 54, f 55, f 56, f 57, f 58, f 59, f 60, f 61, f 62, f 63, f 64, f 65, f 66, f 67, f 68, f 69, f 70, f 71, f 72, f 73, f 74, f 75, f 76, f 77, f 78, f 79, f 80, f 81, f 82, f 83, f 84, f 85], defers := Ds.map MkD }) (fun _ W => n - (intOf ((W.cell? ⟨p6, 0, none⟩).getD undef)).toNat) ?_ ?_
  · exact ⟨_, _, _, _, _, _, [], hW, fr_intro _ _ rfl⟩
  · rintro _ wr ⟨at', frm, cnt, S, out, r, Ds, hG, f, rfl⟩
    have c1 := hG.v.b1.cell
    have c6 := hG.v.b6.cell
    have f6 := hG.v.b6.frozen
    have i1 := hG.inv.le1
    have i2 := hG.inv.le2
    rw [hbl] at i2
    by_cases hp : at' + 4 ≤ n
    · have d1 : decide ((at' : Int) + 4 ≤ (n : Int)) = true := decide_eq_true (by omega)
      have HG := Lib.hid hG
      clear hG
      go_wp2
      have hb01 : Below wr.heap.size wr ((wr.alloc (.cells #[.int .i64 0] 3)).alloc (.cells #[.int .i64 0] 3)) := ((Below.refl _ _).alloc (Nat.le_refl _) _).alloc (by simp) _
      have hx8 := (Boxed.new wr 3 (.int .i64 0)).alloc (.cells #[.int .i64 0] 3)
      have hx9 := Boxed.new (wr.alloc (.cells #[.int .i64 0] 3)) 3 (.int .i64 0)
      have hsz0 : ((wr.alloc (.cells #[.int .i64 0] 3)).alloc (.cells #[.int .i64 0] 3)).heap.size = wr.heap.size + 1 + 1 := by simp
      rw [World.size_alloc] at hx9
      obtain ⟨W0, hW0⟩ : ∃ W0, (wr.alloc (.cells #[.int .i64 0] 3)).alloc (.cells #[.int .i64 0] 3) = W0 := ⟨_, rfl⟩
      rw [hW0] at hb01 hx8 hx9 hsz0
      rw [hW0]
      obtain ⟨t8, ht8⟩ : ∃ t8, wr.heap.size = t8 := ⟨_, rfl⟩
      rw [ht8] at hx8 hx9 hsz0 ⊢
      have hG0 := HG.out.keep hb01
      have HGR := Lib.hid hG0.v.gr
      have B1 := hG0.v.b1
      have B4 := hG0.v.b4
      have B6 := hG0.v.b6
      have HB01 := Lib.hid hb01
      have X8 := Lib.hid hx8
      have X9 := Lib.hid hx9
      have hcnt : cnt < 1000000 := by have := HG.out.cnt; omega
      have hkb := keyL_bd b at' (fun x hx => wf_u8_bd (HR.out.wf x hx))
      have HKEY : Hid (∀ w', Below W0.heap.size W0 w' → Calls Try.prog 21 #[.slice a n c, .int .i64 at'] w' fun e w'' => e = .returned (.int .u32 (keyL b at')) ∧ w' = w'') :=
        fun w' hw' => key_any a n c b at' w' (HR.out.below (Below.call (Below.call HG.out.v.below hb01) hw')) hp hn
      obtain ⟨q, hqe⟩ : ∃ q, keyL b at' = q := ⟨_, rfl⟩
      rw [hqe] at HKEY hkb
      have HQE := Lib.hid hqe
      have hq : (Lit.int .u32 q).wf = true := WalkArith.wf_u32 (by omega)
      have hOLD : Below W0.heap.size W0 W0.drew := ⟨rfl, rfl, rfl, Nat.le_refl _, fun _ _ => rfl⟩
      have HSZ := Lib.hid hsz0
      clear hG0 hb01 hx8 hx9 hqe hW0 c1 c6 f6 hsz0
      refine' reg_gen SameW [(6, 4)] [eqV _, eqV _, eqV _, eqV _, (fun v w => ∃ av cv, v = .slice av (S q).length cv ∧ RdAt .i64 w av (S q).length cv (S q) ∧ ∀ x, av = some x → 0 < (S q).length → x.block < t8), (fun v w => v = .pointer (some ⟨W0.heap.size, 0, none⟩) ∧ ∃ x, w.heap[W0.heap.size]? = some (.cells #[x] 49 (0, 0))), (fun _ w => ∃ av cv, w.heap[W0.heap.size]? = some (.cells #[.slice av (S q).length cv] 49 (0, 0)) ∧ RdAt .i64 w av (S q).length cv (S q) ∧ ∀ x, av = some x → 0 < (S q).length → x.block < t8)] [(5, fun w w' => Below w.heap.size w w'), (6, fun w w' => ∃ x, w' = w.setCell ⟨W0.heap.size, 0, none⟩ x)] [(0, fun w => Below W0.heap.size W0 w), (1, fun w => Below W0.heap.size W0 w), (2, fun w => Below W0.heap.size W0 w), (3, fun w => Below W0.heap.size W0 w), (4, fun w => Below W0.heap.size W0 w), (5, fun w => w.heap.size = W0.heap.size), (7, fun w => Below W0.heap.size W0 w)] [23, 24, 25, 26, 27, 10, 92] [[], [], [], [1, 2], [0, 3], [], [4, 5]] [0, 1, 2, 3, 4, 5, 6] 7 (by kernel_rfl) (by kernel_rfl) ⟨eqV_stays _, eqV_stays _, eqV_stays _, eqV_stays _, fun _ _ _ p b => (by obtain ⟨x, y, e, h1, h2⟩ := p; exact ⟨x, y, e, h1.below (b.below _), h2⟩), fun _ _ _ p b => ⟨p.1, (by obtain ⟨x, e⟩ := p.2; exact ⟨x, by rw [b.heap]; exact e⟩)⟩, fun _ _ _ p b => (by obtain ⟨x, y, h0, h1, h2⟩ := p; exact ⟨x, y, by rw [b.heap]; exact h0, h1.below (b.below _), h2⟩), trivial⟩ ⟨⟨.inl (eqV_stays _), .inl (eqV_stays _), .inl (eqV_stays _), .inl (eqV_stays _), .inl (fun _ _ _ p b => (by obtain ⟨x, y, e, h1, h2⟩ := p; exact ⟨x, y, e, h1.below b, h2⟩)), .inr (.inr (.inl rfl)), .inr (.inl (by kernel_rfl)), trivial⟩, ⟨.inl (eqV_stays _), .inl (eqV_stays _), .inl (eqV_stays _), .inl (eqV_stays _), .inr (.inr (.inr (by kernel_rfl))), .inl (fun _ _ _ p b => ⟨p.1, (by obtain ⟨x, e⟩ := p.2; obtain ⟨y, rfl⟩ := b; exact ⟨y, heap_setCell_same _ _ _ _ _ _ e⟩)⟩), .inr (.inr (.inl rfl)), trivial⟩, trivial⟩ ⟨fun _ _ p b => p.trans (b.below _), fun _ _ p b => p.trans (b.below _), fun _ _ p b => p.trans (b.below _), fun _ _ p b => p.trans (b.below _), fun _ _ p b => p.trans (b.below _), fun _ _ p b => (congrArg Array.size b.heap).trans p, fun _ _ p b => p.trans (b.below _), trivial⟩ ⟨⟨.inl (fun _ _ p b => Below.call p b), .inl (fun _ _ p b => Below.call p b), .inl (fun _ _ p b => Below.call p b), .inl (fun _ _ p b => Below.call p b), .inl (fun _ _ p b => Below.call p b), .inr (.inr rfl), .inl (fun _ _ p b => Below.call p b), trivial⟩, ⟨.inr (.inl (by kernel_rfl)), .inr (.inl (by kernel_rfl)), .inr (.inl (by kernel_rfl)), .inr (.inl (by kernel_rfl)), .inr (.inl (by kernel_rfl)), .inr (.inl (by kernel_rfl)), .inl (fun _ _ p b => (by obtain ⟨x, rfl⟩ := b; exact p.setCell (p := ⟨_, 0, none⟩) (Nat.le_refl _) x)), trivial⟩, trivial⟩ ⟨hOLD, hOLD, hOLD, hOLD, hOLD, rfl, hOLD, trivial⟩ 86 rfl (by kernel_rfl) (by kernel_rfl) rfl rfl 7 rfl ?q1obl ?q1fin
      case q1obl =>
        refine And.intro ?q1o0 (And.intro ?q1o1 (And.intro ?q1o2 (And.intro ?q1o3 (And.intro ?q1o4 (And.intro ?q1o5 (And.intro ?q1o6 (True.intro)))))))
        case q1o0 =>
          intro w1 hI
          replace hI : (fun w => Below W0.heap.size W0 w) w1 := hI
          refine turn2_on (by rfl) ?_
          intro K hK
          have hc := (cell_at (hI.block p4 B4.lt) 0).trans B4.cell
          go_simp
          refine hK _ _ ⟨rfl, SameW.refl _, ?_⟩
          show _ = _
          simp only [List.getD_cons_zero, List.getD_cons_succ, Array.getD_eq_getD_getElem?, List.getElem?_toArray, List.getElem?_cons_zero, List.getElem?_cons_succ, Option.getD_some]
          rfl
        case q1o1 =>
          intro w1 hI
          replace hI : (fun w => Below W0.heap.size W0 w) w1 := hI
          refine turn2_on (by rfl) ?_
          intro K hK
          have hc := (cell_at (hI.block p1 B1.lt) 0).trans B1.cell
          go_simp
          refine hK _ _ ⟨rfl, SameW.refl _, ?_⟩
          show _ = _
          simp only [List.getD_cons_zero, List.getD_cons_succ, Array.getD_eq_getD_getElem?, List.getElem?_toArray, List.getElem?_cons_zero, List.getElem?_cons_succ, Option.getD_some]
          rfl
        case q1o2 =>
          intro w1 hI
          replace hI : (fun w => Below W0.heap.size W0 w) w1 := hI
          refine turn2_on (by rfl) ?_
          intro K hK
          have hc := (cell_at (hI.block p6 B6.lt) 0).trans B6.cell
          go_simp
          refine hK _ _ ⟨rfl, SameW.refl _, ?_⟩
          show _ = _
          simp only [List.getD_cons_zero, List.getD_cons_succ, Array.getD_eq_getD_getElem?, List.getElem?_toArray, List.getElem?_cons_zero, List.getElem?_cons_succ, Option.getD_some]
          rfl
        case q1o3 =>
          intro w1 hI
          replace hI : (fun w => Below W0.heap.size W0 w) w1 := hI
          intro v1 h1
          change _ = _ at h1
          subst v1
          intro v2 h2
          change _ = _ at h2
          subst v2
          refine turn2_on (by rfl) ?_
          intro K hK
          simp only [List.getD_cons_zero, List.getD_cons_succ, List.setIfInBounds_toArray, List.set_cons_zero, List.set_cons_succ]
          go_simp
          refine Calls.mono (HKEY.out _ hI) ?_
          rintro e w2 ⟨rfl, rfl⟩
          refine hK _ _ ⟨rfl, SameW.refl _, ?_⟩
          show _ = _
          simp only [List.getD_cons_zero, List.getD_cons_succ, Array.getD_eq_getD_getElem?, List.getElem?_toArray, List.getElem?_cons_zero, List.getElem?_cons_succ, Option.getD_some]
          rfl
        case q1o4 =>
          intro w1 hI
          replace hI : (fun w => Below W0.heap.size W0 w) w1 := hI
          intro v0 h0
          change _ = _ at h0
          subst v0
          intro v3 h3
          change _ = _ at h3
          subst v3
          refine turn2_on (by rfl) ?_
          intro K hK
          simp only [List.getD_cons_zero, List.getD_cons_succ, List.setIfInBounds_toArray, List.set_cons_zero, List.set_cons_succ]
          obtain ⟨v0, hrun, l1, l2, l3, l4⟩ := (HGR.out.below hI).look hcnt q hq
          obtain ⟨av, cv, rfl⟩ := ownsRow_shape l1.1
          have hown := HG.out.v.gr.rowLow (Below.call HB01.out hI) q hq hrun
          rw [ht8] at hown
          go_simp
          refine hK _ _ ⟨rfl, SameW.refl _, ?_⟩
          show ∃ av cv, _ = _ ∧ RdAt _ _ _ _ _ _ ∧ _
          simp only [List.getD_cons_zero, List.getD_cons_succ, Array.getD_eq_getD_getElem?, List.getElem?_toArray, List.getElem?_cons_zero, List.getElem?_cons_succ, Option.getD_some]
          exact ⟨av, cv, rfl, RdAt.owned l1.1 l1.2, hown⟩
        case q1o5 =>
          intro w1 hI
          replace hI : (fun w => w.heap.size = W0.heap.size) w1 := hI
          refine turn2_on (by rfl) ?_
          intro K hK
          have HI := Lib.hid hI
          clear hI
          go_simp
          refine hK _ _ ⟨rfl, (Below.refl _ _).alloc (Nat.le_refl _) _, ?_⟩
          show _ = _ ∧ ∃ x, _
          simp only [List.getD_cons_zero, List.getD_cons_succ, Array.getD_eq_getD_getElem?, List.getElem?_toArray, List.getElem?_cons_zero, List.getElem?_cons_succ, Option.getD_some]
          exact ⟨by rw [HI.out], _, by rw [← HI.out]; exact heap_alloc_new _ _⟩
        case q1o6 =>
          intro w1 hI
          intro v4 h4
          obtain ⟨a4, c4, rfl, h4, h4b⟩ := h4
          intro v5 h5
          obtain ⟨rfl, y5, h5⟩ := h5
          refine turn2_on (by rfl) ?_
          intro K hK
          simp only [List.getD_cons_zero, List.getD_cons_succ, List.setIfInBounds_toArray, List.set_cons_zero, List.set_cons_succ]
          have hc := (show Boxed w1 W0.heap.size 49 y5 from h5).cell
          have hf := (show Boxed w1 W0.heap.size 49 y5 from h5).frozen
          go_simp
          refine hK _ _ ⟨rfl, ⟨_, rfl⟩, ?_⟩
          exact ⟨a4, c4, heap_setCell_same _ _ _ _ _ _ h5, h4.grownN (store_grown _ _ _) (fun x hx h0 e => by injection e with e; have := h4b x hx h0; have := HSZ.out; omega), h4b⟩
      intro wf hI
      replace hI : (fun w => Below W0.heap.size W0 w) wf := hI
      intro v0 h0
      replace h0 := h0 (by kernel_rfl)
      change _ = _ at h0
      subst v0
      intro v1 h1
      replace h1 := h1 (by kernel_rfl)
      change _ = _ at h1
      subst v1
      intro v2 h2
      replace h2 := h2 (by kernel_rfl)
      change _ = _ at h2
      subst v2
      intro v3 h3
      replace h3 := h3 (by kernel_rfl)
      change _ = _ at h3
      subst v3
      intro v4 _
      intro v5 h5
      replace h5 := h5 (by kernel_rfl)
      obtain ⟨rfl, y5, h5⟩ := h5
      intro v6 h6
      replace h6 := h6 (by kernel_rfl)
      obtain ⟨a6, c6, h6, h6r, h6b⟩ := h6
      simp only [Given, List.getD_cons_zero, List.getD_cons_succ, List.setIfInBounds_toArray, List.set_cons_zero, List.set_cons_succ]
      have hc10 := (show Boxed wf W0.heap.size 49 (.slice a6 (S q).length c6) from h6).cell
      have HI := Lib.hid hI
      have H6 := Lib.hid h6
      have H6R := Lib.hid h6r
      have H6B := Lib.hid h6b
      clear hI h5 h6 h6r h6b B1 B4 B6 hOLD HKEY
      go_wp2_with fail
      refine (backward_any _ _ _ _).mono ?_
      rintro e W1 ⟨rfl, hW1⟩
      obtain ⟨b0, hb0⟩ : ∃ x, wf.heap.size = x := ⟨_, rfl⟩
      obtain ⟨t10, ht10⟩ : ∃ x, W0.heap.size = x := ⟨_, rfl⟩
      obtain ⟨nL, hnL⟩ : ∃ x, (S q).length = x := ⟨_, rfl⟩
      have hsz1 : t10 = t8 + 1 + 1 := by rw [← ht10]; exact HSZ.out
      subst hsz1
      have hsz2 : t8 + 1 + 1 < b0 := by rw [← ht10, ← hb0]; exact (show Boxed wf W0.heap.size 49 (.slice a6 (S q).length c6) from H6.out).lt
      have hbW : Below wf.heap.size wf W1 := by rw [hW1]; exact (Below.refl _ _).alloc (Nat.le_refl _) _
      have HBW := Lib.hid (Below.call HI.out hbW)
      have HB1 := Lib.hid (Below.call HB01.out HBW.out)
      have XB : Hid (Boxed W1 b0 49 (.slice a6 nL c6)) := by
        show Boxed _ _ _ _
        rw [hW1, ← hb0, ← hnL]
        exact Boxed.new _ _ _
      have X10 : Hid (Boxed W1 (t8 + 1 + 1) 49 (.slice a6 nL c6)) := by
        show Boxed _ _ _ _
        rw [← ht10, ← hnL]
        exact boxed_blw (show Boxed wf W0.heap.size 49 (.slice a6 (S q).length c6) from H6.out) hbW
      have RL : Hid (RdAt .i64 W1 a6 nL c6 (S q)) := by show RdAt _ _ _ _ _ _; rw [← hnL]; exact H6R.out.below hbW
      rw [hnL] at H6B
      have hszw : W1.heap.size = b0 + 1 := by rw [hW1, ← hb0]; simp
      have Y8 := Lib.hid (boxed_blw X8.out HBW.out)
      have Y9 := Lib.hid (boxed_blw X9.out HBW.out)
      have hnlc : nL ≤ 1000000 := by
        obtain ⟨_, _, _, h, _⟩ := HG.out.v.gr.look hcnt q hq
        rw [hnL] at h
        omega
      rw [hb0, ht10, hnL]
      clear hW1 hbW hc10 X8 X9 HBW H6 H6R HI HGR
      have HHN := Lib.hid hnL
      have HT8 := Lib.hid ht8
      have HTT := Lib.hid ht10
      have HBB := Lib.hid hb0
      clear hnL ht10 hb0
      go_wp2_with fail
      refine wpIn_wide.1 (wpIn_rangeFunc_ownF (n := 4) rfl (by decide) (gf := 29) (lb := #[.pointer (some ⟨b0, 0, none⟩)]) rfl trivial (enters_of Try.func29 (by kernel_rfl) rfl)
        (back_stops Fence.wide (4 - 1) trivial rfl (by decide) b0 nL c6 a6 (S q) (fun j => j = b0 ∨ j < t8) (.inl rfl) (fun x hx h0 => .inr (H6B.out x hx h0)) hnlc W1 (fun j hj => by omega) XB.out.cell RL.out) KpZ.trans (kpz_put (fun j hj => by omega)) (Below.refl _ _) (fun _ => rfl)
        (fun pre W => FI b at' (S q) t8 (t8 + 1 + 1) (b0 + 1) (.slice a6 nL c6) wr (pre.map (·.1)) W) (fun c pre W => ∃ p x, pre = p ++ [x] ∧ c = .exit 2 ∧ 24 < (nL : Int) - x.1 ∧ FI b at' (S q) t8 (t8 + 1 + 1) (b0 + 1) (.slice a6 nL c6) wr (p.map (·.1)) W)
        (FI.own (by rw [hszw, HT8.out]; omega)) (fun c s W W' row hs hg hr => by
          obtain ⟨p, x, h1, h2, h3, h4⟩ := hs
          exact ⟨p, x, h1, h2, h3, FI.own (by rw [hszw, HT8.out]; omega) p W W' row h4 hg hr⟩)
        ⟨⟨0, 0, Y8.out, Y9.out, FoundP.nil _ _ _⟩, X10.out, HB1.out, by omega⟩
        (fun x => { tmps := #[.slice a n c, .pointer (some ⟨p1, 0, none⟩), .slice none 0 0, r, .pointer (some ⟨p4, 0, none⟩), .int .i64 (frm : Int), .pointer (some ⟨p6, 0, none⟩), .func (.func 20) #[] #[.pointer (some ⟨p1, 0, none⟩), .pointer (some ⟨p4, 0, none⟩)], .pointer (some ⟨t8, 0, none⟩), .pointer (some ⟨t8 + 1, 0, none⟩), .pointer (some ⟨t8 + 1 + 1, 0, none⟩), .int .i64 x.1, .int .i64 (nth (S q) x.1), f 13, f 14, .slice (some ⟨row, 0, none⟩) 1 1, .map (some mb), .func (.func 20) #[] #[.pointer (some ⟨p1, 0, none⟩), .pointer (some ⟨p4, 0, none⟩)], .int .i64 (at' : Int), .int .i64 ((at' : Int) + 4), .slice a n c, .int .i64 (n : Int), .bool true, .map (some mb), .slice a n c, .int .i64 (at' : Int), .int .u32 q, v4, .slice a6 nL c6, .func (.func 29) #[] #[.pointer (some ⟨b0, 0, none⟩)], .int .i64 x.1, .int .i64 (nth (S q) x.1), f 32, f 33, f 34, f 35, f 36, f 37, f 38, f 39, f 40, f 41, f 42, f 43, f 44, f 45, f 46, f 47, f 48, f 49, f 50, f 51, f 52, f 53, f 54, f 55, f 56, f 57, f 58, f 59, f 60, f 61, f 62, f 63, f 64, f 65, f 66, f 67, f 68, f 69, f 70, f 71, f 72, f 73, f 74, f 75, f 76, f 77, f 78, f 79, f 80, f 81, f 82, f 83, f 84, f 85], defers := [] }) ?assign ?body ?done ?stop)
      case assign =>
        intro l x W K hK
        gi_wp2
        exact hK
      case body =>
        rintro l pre ⟨k, hk⟩ W hFI hlen
        have HFI := Lib.hid hFI
        obtain ⟨⟨best, place, z8, z9, hf⟩, z10, hB, hszf⟩ := hFI
        have hGW := HG.out.keep hB
        have c1 := hGW.v.b1.cell
        have c6 := hGW.v.b6.cell
        have c8 := z8.cell
        have f8 := z8.frozen
        have c9 := z9.cell
        have f9 := z9.frozen
        have c10 := z10.cell
        have hlow := HG.out.inv.low q (nth (S q) k) (by rw [nth_eq hk]; exact List.getElem_mem _)
        obtain ⟨iN, hiN⟩ := Int.eq_ofNat_of_zero_le hlow.1
        have HF := Lib.hid hf
        have hRW := HR.out.below (Below.call HG.out.v.below hB)
        have HSM := Lib.hid (same_any a n c b iN at' W hRW (by omega) (by omega) hn)
        have Z8 := Lib.hid z8
        have Z9 := Lib.hid z9
        have Z10 := Lib.hid z10
        have HB := Lib.hid hB
        have HIN := Lib.hid hiN
        dsimp only
        rw [hiN]
        have hkn : k < nL := by rw [← HHN.out]; exact hk
        have hszb := z10.lt
        clear hf hRW hGW z8 z9 z10 hB hiN hlow hlen
        by_cases h24 : (24 : Int) < (nL : Int) - (k : Int)
        · have d24 : decide ((24 : Int) < (nL : Int) - (k : Int)) = true := decide_eq_true h24
          gi_wp2
          exact ⟨KeepsOthers.refl _, pre, ⟨k, hk⟩, rfl, rfl, h24, HFI.out⟩
        · have d24 : decide ((24 : Int) < (nL : Int) - (k : Int)) = false := decide_eq_false h24
          obtain ⟨mm, hmm⟩ : ∃ x, sameN b iN at' = x := ⟨_, rfl⟩
          rw [hmm] at HSM
          have HMM := Lib.hid hmm
          clear hmm h24
          by_cases hbm : best < mm
          · have dbm : decide ((best : Int) < (mm : Int)) = true := decide_eq_true (by omega)
            gi_wp2_with fail
            refine ⟨trivial, ?_⟩
            gi_at_call 23
            refine (CallsIn.inRound l (callsIn_wide.2 HSM.out)).mono ?_
            rintro e W2 ⟨rfl, hb2⟩
            have HB2 := Lib.hid hb2
            have y8 := boxed_blw Z8.out hb2
            have y9 := boxed_blw Z9.out hb2
            have c8 := y8.cell
            have f8 := y8.frozen
            have f9 := y9.frozen
            have f9' := (y9.other (B' := t8) (by omega) (.int .i64 (mm : Int))).frozen
            have c9' := (y9.other (B' := t8) (by omega) (.int .i64 (mm : Int))).cell
            have c8' := (y8.set (.int .i64 (mm : Int))).cell
            have c9 := y9.cell
            clear hb2
            gi_wp2
            have y8 := boxed_blw Z8.out HB2.out
            have y9 := boxed_blw Z9.out HB2.out
            have y10 := boxed_blw Z10.out HB2.out
            refine ⟨(keeps_blw HB2.out).trans ((KeepsOthers.setCell _ _ _).trans (KeepsOthers.setCell _ _ _)), (kpz_blw HB2.out (fun j hj => ?_)).trans ((kpz_set (fun hj => ?_) _).trans (kpz_set (fun hj => ?_) _)), ⟨⟨mm, (iN : Int), (y8.set _).other (by omega) _, (y9.other (by omega) _).set _, ?_⟩, (y10.other (by omega) _).other (by omega) _, ?_, ?_⟩⟩
            · rcases hj with hj | hj <;> omega
            · rcases hj with hj | hj <;> omega
            · rcases hj with hj | hj <;> omega
            · rw [List.map_append, ← HMM.out]
              have := HF.out.yes k hk (by rw [HIN.out, ← HMM.out] at *; exact hbm)
              rw [HIN.out] at this
              exact this
            · exact ((Below.call HB.out HB2.out).setCell (p := ⟨t8, 0, none⟩) (by show wr.heap.size ≤ t8; rw [HT8.out]; exact Nat.le_refl _) _).setCell (p := ⟨t8 + 1, 0, none⟩) (by show wr.heap.size ≤ t8 + 1; rw [HT8.out]; omega) _
            · have := HB2.out.size
              simp
              omega
          · have dbm : decide ((best : Int) < (mm : Int)) = false := decide_eq_false (by omega)
            gi_wp2_with fail
            refine ⟨trivial, ?_⟩
            gi_at_call 23
            refine (CallsIn.inRound l (callsIn_wide.2 HSM.out)).mono ?_
            rintro e W2 ⟨rfl, hb2⟩
            have HB2 := Lib.hid hb2
            have y8 := boxed_blw Z8.out hb2
            have c8 := y8.cell
            clear hb2
            gi_wp2
            refine ⟨keeps_blw HB2.out, kpz_blw HB2.out (fun j hj => ?_), ⟨⟨best, place, boxed_blw Z8.out HB2.out, boxed_blw Z9.out HB2.out, ?_⟩, boxed_blw Z10.out HB2.out, Below.call HB.out HB2.out, Nat.le_trans hszf HB2.out.size⟩⟩
            · rcases hj with hj | hj <;> omega
            · rw [List.map_append]
              exact HF.out.no k (by rw [HIN.out]; exact fun h => hbm (by rw [← HMM.out]; exact h))
      case done =>
        rintro D ys W hD hys ⟨⟨best, place, z8, z9, hf⟩, z10, hB, hszf⟩ hK
        have hfl := found_done hys hf
        have HK := Lib.hid hK
        have Z8 := Lib.hid z8
        have Z9 := Lib.hid z9
        have HB := Lib.hid hB
        have HFL := Lib.hid hfl
        have HV := Lib.hid ((HG.out.v.extra (X' := fun g => g = t8) (fun g e => .inr (by rw [HT8.out, e]; exact Nat.le_refl _))).mark hB (by rw [HT8.out]; omega) hK)
        have cc1 := HV.out.b1.cell
        have cc6 := HV.out.b6.cell
        have cc8 := z8.cell
        have cc9 := z9.cell
        have hRW := Lib.hid (HR.out.below HV.out.below)
        clear hys hf z8 z9 z10 hB hszf hK hfl
        by_cases hb6 : best < 6
        · have d6 : decide ((best : Int) < 6) = true := decide_eq_true (by omega)
          have HN := Lib.hid (note_any p1 p4 a n c b (p6 + 1) mb cnt _ S at' W HV.out.b1.cell HV.out.b4.cell hRW.out HV.out.gr (HV.out.no (fun g e => by rw [e]; exact Z8.out.lt)) hcnt hn (by omega) (.inl (by have := HV.out.ps; omega)) (by have := HV.out.ps; omega) HV.out.b6.lt)
          go_wp2_with fail
          refine HN.out.mono ?_
          rintro e W2 ⟨⟨v2, rfl⟩, hg2, hs2⟩
          have HV2 := Lib.hid (HV.out.note hs2 hg2)
          have c6 := HV2.out.b6.cell
          have f6 := HV2.out.b6.frozen
          clear hg2 hs2
          go_wp2_with fail
          have hst := (HV2.out.setAt (at' + 1)).extra (X' := fun _ => False) (fun g e => e.elim)
          have hca : ((at' + 1 : Nat) : Int) = (at' : Int) + 1 := by omega
          refine ⟨⟨at' + 1, frm, cnt + 1, _, out, r, D :: Ds, ⟨by rw [hca] at hst; exact hst, HG.out.inv.no (by omega) (by rw [HQE.out]; exact HFL.out) hb6, by have := HG.out.cnt; omega⟩, fr_intro _ _ rfl⟩, ?_⟩
          have hcm := hst.b6.cell
          rw [hca] at hcm
          rw [hcm, HG.out.v.b6.cell]
          simp [intOf]
          omega
        · have d6 : decide ((best : Int) < 6) = false := decide_eq_false (by omega)
          obtain ⟨pl0, pl1, pl2, _⟩ := HG.out.inv.yes (by omega) (by omega) (by rw [HQE.out]; exact HFL.out) (show 6 ≤ best by omega) S (fun k i h => .inl h)
          obtain ⟨pN, rfl⟩ := Int.eq_ofNat_of_zero_le pl0
          have HYES := Lib.hid (fun S' hS' => (HG.out.inv.yes (by omega) (by omega) (by rw [HQE.out]; exact HFL.out) (show 6 ≤ best by omega) S' hS').2.2.2)
          obtain ⟨d, hd⟩ : ∃ d, at' - pN = d := ⟨_, rfl⟩
          have hd2 : (at' : Int) - (pN : Int) = (d : Int) := by omega
          have hpN : ((pN : Int)).toNat = pN := rfl
          rw [hpN, hd] at HYES
          obtain ⟨lr, hlr⟩ : ∃ x, out.length = x := ⟨_, rfl⟩
          have hlr2 : lr ≤ 3000001 := by have := HG.out.inv.short; omega
          obtain ⟨ar, cr, hrv⟩ := HG.out.v.own.shapeN lr hlr
          subst hrv
          have HSL : Hid (((b.drop frm).take (at' - frm)).length ≤ 100000) := by show _ ≤ _; rw [List.length_take]; omega
          have HLL : Hid ((litL out ((b.drop frm).take (at' - frm))).length ≤ 4000000) := by
            have := HSL.out
            have := varF_len 9 (2 * (((b.drop frm).take (at' - frm)).length : Int))
            show _ ≤ _
            unfold litL litT'
            split
            · omega
            · simp only [List.length_append] at *; omega
          have hif : (if at' = frm then a else Option.map (fun x => x.add frm) a) = subAt at' frm a := rfl
          have hac : at' ≤ c := Nat.le_trans i2 HR.out.cap
          have hwd : IntKind.i64.wrap (d : Int) = d := IntWalk.i64_in _ (by omega)
          clear pl0 pl1 hlr hpN hd
          go_wp2_with fail
          refine' reg_free (G := Kept) (pickF [eqV _, eqV _, eqV _, eqV _, eqV _, isBytes ((b.drop frm).take (at' - frm)), isBytes (litL out ((b.drop frm).take (at' - frm))), eqV _, eqV _, eqV _, eqV _, (fun v w => Owns .u8 5 w W.heap.size v (copL (litL out ((b.drop frm).take (at' - frm))) best d)), (fun v w => Owns .u8 5 w W.heap.size v (copL (litL out ((b.drop frm).take (at' - frm))) best d))]) [53, 54, 55, 56, 57, 58, 59, 60, 61, 62, 63, 64, 3] [[], [], [], [], [], [1, 2, 3, 4], [0, 5], [], [], [], [8, 9], [6, 7, 10], [11]] [0, 1, 2, 3, 4, 5, 6, 7, 8, 9, 10, 11, 12] (by kernel_rfl) Kept.refl Kept.trans (pick_stays ⟨eqV_stays _, eqV_stays _, eqV_stays _, eqV_stays _, eqV_stays _, isBytes_stays _, isBytes_stays _, eqV_stays _, eqV_stays _, eqV_stays _, eqV_stays _, fun _ _ _ p b => Owns.below p b, fun _ _ _ p b => Owns.below p b, trivial⟩) 86 rfl (by kernel_rfl) (by kernel_rfl) rfl rfl ?r2obl ?r2fin
          case r2obl =>
            refine And.intro ?r2o0 (And.intro ?r2o1 (And.intro ?r2o2 (And.intro ?r2o3 (And.intro ?r2o4 (And.intro ?r2o5 (And.intro ?r2o6 (And.intro ?r2o7 (And.intro ?r2o8 (And.intro ?r2o9 (And.intro ?r2o10 (And.intro ?r2o11 (And.intro ?r2o12 (True.intro)))))))))))))
            case r2o0 =>
              intro w1 hG
              refine turn_on (by rfl) ?_
              intro K hK
              go_simp
              refine hK _ _ ⟨rfl, Kept.refl _, ?_⟩
              show _ = _
              simp only [List.getD_cons_zero, List.getD_cons_succ, Array.getD_eq_getD_getElem?, List.getElem?_toArray, List.getElem?_cons_zero, List.getElem?_cons_succ, Option.getD_some]
              rfl
            case r2o1 =>
              intro w1 hG
              refine turn_on (by rfl) ?_
              intro K hK
              have hc := (boxed_blw (show Boxed W.drew _ _ _ from HV.out.b1) hG).cell
              go_simp
              refine hK _ _ ⟨rfl, Kept.refl _, ?_⟩
              show _ = _
              simp only [List.getD_cons_zero, List.getD_cons_succ, Array.getD_eq_getD_getElem?, List.getElem?_toArray, List.getElem?_cons_zero, List.getElem?_cons_succ, Option.getD_some]
              rfl
            case r2o2 =>
              intro w1 hG
              refine turn_on (by rfl) ?_
              intro K hK
              go_simp
              refine hK _ _ ⟨rfl, Kept.refl _, ?_⟩
              show _ = _
              simp only [List.getD_cons_zero, List.getD_cons_succ, Array.getD_eq_getD_getElem?, List.getElem?_toArray, List.getElem?_cons_zero, List.getElem?_cons_succ, Option.getD_some]
              rfl
            case r2o3 =>
              intro w1 hG
              refine turn_on (by rfl) ?_
              intro K hK
              have hc := (boxed_blw (show Boxed W.drew _ _ _ from HV.out.b6) hG).cell
              go_simp
              refine hK _ _ ⟨rfl, Kept.refl _, ?_⟩
              show _ = _
              simp only [List.getD_cons_zero, List.getD_cons_succ, Array.getD_eq_getD_getElem?, List.getElem?_toArray, List.getElem?_cons_zero, List.getElem?_cons_succ, Option.getD_some]
              rfl
            case r2o4 =>
              intro w1 hG
              refine turn_on (by rfl) ?_
              intro K hK
              have hc := (boxed_blw (show Boxed W.drew _ _ _ from HV.out.b6) hG).cell
              go_simp
              refine hK _ _ ⟨rfl, Kept.refl _, ?_⟩
              show _ = _
              simp only [List.getD_cons_zero, List.getD_cons_succ, Array.getD_eq_getD_getElem?, List.getElem?_toArray, List.getElem?_cons_zero, List.getElem?_cons_succ, Option.getD_some]
              rfl
            case r2o5 =>
              intro w1 hG
              intro v1 h1
              change _ = _ at h1
              subst h1
              intro v2 h2
              change _ = _ at h2
              subst h2
              intro v3 h3
              change _ = _ at h3
              subst h3
              intro v4 h4
              change _ = _ at h4
              subst h4
              refine turn_on (by rfl) ?_
              intro K hK
              simp only [List.getD_cons_zero, List.getD_cons_succ, List.setIfInBounds_toArray, List.set_cons_zero, List.set_cons_succ]
              go_simp
              refine hK _ _ ⟨rfl, Kept.refl _, ?_⟩
              show isBytes _ _ _
              simp only [List.getD_cons_zero, List.getD_cons_succ, Array.getD_eq_getD_getElem?, List.getElem?_toArray, List.getElem?_cons_zero, List.getElem?_cons_succ, Option.getD_some]
              exact ⟨_, _, _, rfl, RdAt.keptD (rd_part hRW.out frm at' i1 i2) hG⟩
            case r2o6 =>
              intro w1 hG
              intro v0 h0
              change _ = _ at h0
              subst h0
              intro v5 h5
              obtain ⟨a5, n5, c5, rfl, h5⟩ := h5
              refine turn_on (by rfl) ?_
              intro K hK
              simp only [List.getD_cons_zero, List.getD_cons_succ, List.setIfInBounds_toArray, List.set_cons_zero, List.set_cons_succ]
              go_simp
              refine Calls.mono (literal_any w.heap.size _ _ _ _ _ _ _ _ _ (Owns.below (w := W.drew) HV.out.own hG) (Nat.le_trans HV.out.below.size hG.size) h5 (by omega) (by have := h5.len; have := HSL.out; omega)) ?_
              rintro e w2 ⟨⟨vv, rfl, ho2⟩, hb2⟩
              refine hK _ _ ⟨rfl, hb2, ?_⟩
              show isBytes _ _ _
              simp only [List.getD_cons_zero, List.getD_cons_succ, Array.getD_eq_getD_getElem?, List.getElem?_toArray, List.getElem?_cons_zero, List.getElem?_cons_succ, Option.getD_some]
              exact ho2.isBytes
            case r2o7 =>
              intro w1 hG
              refine turn_on (by rfl) ?_
              intro K hK
              have hc := (boxed_blw (show Boxed W.drew _ _ _ from Z8.out) hG).cell
              go_simp
              refine hK _ _ ⟨rfl, Kept.refl _, ?_⟩
              show _ = _
              simp only [List.getD_cons_zero, List.getD_cons_succ, Array.getD_eq_getD_getElem?, List.getElem?_toArray, List.getElem?_cons_zero, List.getElem?_cons_succ, Option.getD_some]
              rfl
            case r2o8 =>
              intro w1 hG
              refine turn_on (by rfl) ?_
              intro K hK
              have hc := (boxed_blw (show Boxed W.drew _ _ _ from HV.out.b6) hG).cell
              go_simp
              refine hK _ _ ⟨rfl, Kept.refl _, ?_⟩
              show _ = _
              simp only [List.getD_cons_zero, List.getD_cons_succ, Array.getD_eq_getD_getElem?, List.getElem?_toArray, List.getElem?_cons_zero, List.getElem?_cons_succ, Option.getD_some]
              rfl
            case r2o9 =>
              intro w1 hG
              refine turn_on (by rfl) ?_
              intro K hK
              have hc := (boxed_blw (show Boxed W.drew _ _ _ from Z9.out) hG).cell
              go_simp
              refine hK _ _ ⟨rfl, Kept.refl _, ?_⟩
              show _ = _
              simp only [List.getD_cons_zero, List.getD_cons_succ, Array.getD_eq_getD_getElem?, List.getElem?_toArray, List.getElem?_cons_zero, List.getElem?_cons_succ, Option.getD_some]
              rfl
            case r2o10 =>
              intro w1 hG
              intro v8 h8
              change _ = _ at h8
              subst h8
              intro v9 h9
              change _ = _ at h9
              subst h9
              refine turn_on (by rfl) ?_
              intro K hK
              simp only [List.getD_cons_zero, List.getD_cons_succ, List.setIfInBounds_toArray, List.set_cons_zero, List.set_cons_succ]
              go_simp
              refine hK _ _ ⟨rfl, Kept.refl _, ?_⟩
              show _ = _
              simp only [List.getD_cons_zero, List.getD_cons_succ, Array.getD_eq_getD_getElem?, List.getElem?_toArray, List.getElem?_cons_zero, List.getElem?_cons_succ, Option.getD_some]
              rfl
            case r2o11 =>
              intro w1 hG
              intro v6 h6
              obtain ⟨a6, n6, c6, rfl, h6⟩ := h6
              intro v7 h7
              change _ = _ at h7
              subst h7
              intro v10 h10
              change _ = _ at h10
              subst h10
              refine turn_on (by rfl) ?_
              intro K hK
              simp only [List.getD_cons_zero, List.getD_cons_succ, List.setIfInBounds_toArray, List.set_cons_zero, List.set_cons_succ]
              go_simp
              refine Calls.mono (copied_any W.heap.size _ _ _ _ best d _ h6 hG.size (by have := h6.len; have := HLL.out; omega) (by omega) (by omega)) ?_
              rintro e w2 ⟨⟨vv, rfl, ho2⟩, hb2⟩
              refine hK _ _ ⟨rfl, hb2, ?_⟩
              show Owns _ _ _ _ _ _
              simp only [List.getD_cons_zero, List.getD_cons_succ, Array.getD_eq_getD_getElem?, List.getElem?_toArray, List.getElem?_cons_zero, List.getElem?_cons_succ, Option.getD_some]
              exact ho2
            case r2o12 =>
              intro w1 hG
              intro v11 h11
              refine turn_on (by rfl) ?_
              intro K hK
              simp only [List.getD_cons_zero, List.getD_cons_succ, List.setIfInBounds_toArray, List.set_cons_zero, List.set_cons_succ]
              go_simp
              refine hK _ _ ⟨rfl, Kept.refl _, ?_⟩
              show Owns _ _ _ _ _ _
              simp only [List.getD_cons_zero, List.getD_cons_succ, Array.getD_eq_getD_getElem?, List.getElem?_toArray, List.getElem?_cons_zero, List.getElem?_cons_succ, Option.getD_some]
              exact h11
          intro w1 hG
          intro v0 h0
          change _ = _ at h0
          subst h0
          intro v1 h1
          change _ = _ at h1
          subst h1
          intro v2 h2
          change _ = _ at h2
          subst h2
          intro v3 h3
          change _ = _ at h3
          subst h3
          intro v4 h4
          change _ = _ at h4
          subst h4
          intro v5 h5
          obtain ⟨a5, n5, c5, rfl, h5⟩ := h5
          intro v6 h6
          obtain ⟨a6, n6, c6, rfl, h6⟩ := h6
          intro v7 h7
          change _ = _ at h7
          subst h7
          intro v8 h8
          change _ = _ at h8
          subst h8
          intro v9 h9
          change _ = _ at h9
          subst h9
          intro v10 h10
          change _ = _ at h10
          subst h10
          intro v11 h11
          intro v12 h12
          simp only [Given, List.getD_cons_zero, List.getD_cons_succ, List.setIfInBounds_toArray, List.set_cons_zero, List.set_cons_succ]
          replace h12 : Owns .u8 5 w1 W.heap.size v12 (copL (litL out ((b.drop frm).take (at' - frm))) best d) := h12
          have hb3 : Below W.heap.size W w1 := ⟨hG.os, hG.tape, hG.output, hG.size, fun j hj => hG.block j hj⟩
          have HV3 := Lib.hid (HV.out.newrow hb3 h12)
          have Z83 := Lib.hid (boxed_blw Z8.out hb3)
          obtain ⟨out3, ho3⟩ : ∃ x, copL (litL out ((b.drop frm).take (at' - frm))) best d = x := ⟨_, rfl⟩
          rw [ho3] at HV3 HYES
          have HRW3 := Lib.hid (hRW.out.below hb3)
          have c8 := Z83.out.cell
          clear h5 h6 h11 h12 hb3 ho3 hif hd2 hwd cc1 cc6 cc8 cc9
          go_wp2_with fail
          clear c8
          go_loopw [66] (fun v wl => ∃ (k cnt2 : Nat) (S2 : Int → List Int), k ≤ best ∧ v = .int .i64 k ∧ cnt2 ≤ cnt + k ∧ Hid (GV a n c p1 mb p4 p6 at' cnt2 S2 out3 v12 (D :: Ds) (fun g => g = t8) w wl) ∧ Hid (Boxed wl t8 3 (.int .i64 best)) ∧ Hid (∀ key i, i ∈ S2 key → i ∈ S key ∨ ((at' : Int) ≤ i ∧ i < (at' : Int) + k))) (fun v _ => best - (intOf v).toNat)
          case atStart => exact ⟨0, cnt, S, Nat.zero_le _, rfl, Nat.le_refl _, HV3.out, Z83.out, fun key i hi => .inl hi⟩
          case round =>
            obtain ⟨wl, rfl⟩ : ∃ wl : World, wl = wr := ⟨_, rfl⟩
            obtain ⟨k, cnt2, S2, hk, rfl, hcn, hV, hZ, hS⟩ := hrel
            have c1 := hV.out.b1.cell
            have c6 := hV.out.b6.cell
            have f6 := hV.out.b6.frozen
            have c8 := hZ.out.cell
            have hRL := Lib.hid (HR.out.below hV.out.below)
            by_cases hkb2 : k < best
            · have dk : decide ((k : Int) < (best : Int)) = true := decide_eq_true (by omega)
              by_cases h64 : k < 64
              · have dk2 : decide ((k : Int) < 64) = true := decide_eq_true (by omega)
                have hcast : ((at' + k : Nat) : Int) = (at' : Int) + (k : Int) := by omega
                have HN := note_any p1 p4 a n c b (p6 + 1) mb cnt2 _ S2 (at' + k) wl hV.out.b1.cell hV.out.b4.cell hRL.out hV.out.gr (hV.out.no (fun g e => by rw [e]; exact hZ.out.lt)) (by have := HG.out.cnt; omega) hn (by omega) (.inl (by have := hV.out.ps; omega)) (by have := hV.out.ps; omega) hV.out.b6.lt
                rw [hcast] at HN
                have HN2 := Lib.hid HN
                clear HN
                go_wp2_with fail
                refine HN2.out.mono ?_
                rintro e W5 ⟨⟨v5, rfl⟩, hg5, hs5⟩
                have HV5 := Lib.hid (hV.out.note hs5 hg5)
                have Z85 := Lib.hid (boxed_same hZ.out (hs5.block t8 hZ.out.lt (.inr (.inr (.inr rfl))) (by have h1 := hV.out.ps; have h2 := HG.out.v.b6.lt; rw [HT8.out] at h2; omega)))
                clear hg5 hs5
                go_wp2_with fail
                go_roundw
                case rel => exact ⟨k + 1, cnt2 + 1, _, by omega, by go_num, by omega, HV5, Z85, fun key i hi => by
                  rcases noteS_mem hi with h1 | h1
                  · rcases hS.out key i h1 with h2 | h2
                    · exact .inl h2
                    · exact .inr (by omega)
                  · exact .inr (by omega)⟩
                case measure => simp [intOf] <;> omega
              · have dk2 : decide ((k : Int) < 64) = false := decide_eq_false (by omega)
                go_wp2_with fail
                go_roundw
                case rel => exact ⟨k + 1, cnt2, S2, by omega, by go_num, by omega, hV, hZ, fun key i hi => by
                  rcases hS.out key i hi with h2 | h2
                  · exact .inl h2
                  · exact .inr (by omega)⟩
                case measure => simp [intOf] <;> omega
            · obtain rfl : k = best := by omega
              have dk : decide ((k : Int) < (k : Int)) = false := decide_eq_false (by omega)
              have hcast : ((at' + k : Nat) : Int) = (at' : Int) + (k : Int) := by omega
              have hst := (hV.out.setAt (at' + k)).extra (X' := fun _ => False) (fun g e => e.elim)
              rw [hcast] at hst
              have HST := Lib.hid hst
              have c6' := hst.b6.cell
              rw [hcast] at c6'
              clear hst
              go_wp2_with fail
              refine ⟨⟨at' + k, at' + k, cnt2, S2, out3, v12, D :: Ds, ⟨HST.out, HYES.out S2 hS.out, by have := HG.out.cnt; omega⟩, fr_intro _ _ rfl⟩, ?_⟩
              have hcm := HST.out.b6.cell
              rw [hcast] at hcm
              rw [hcm, HG.out.v.b6.cell]
              simp [intOf]
              omega
      case stop =>
        rintro D cc pre W hD hpre ⟨p, x, rfl, rfl, hx, ⟨⟨best, place, z8, z9, hf⟩, z10, hB, hszf⟩⟩ hK
        rw [← HHN.out] at hx
        have hfl := found_stop hpre hx hf
        refine wpIn_wide.2 ?_
        have HK := Lib.hid hK
        have Z8 := Lib.hid z8
        have Z9 := Lib.hid z9
        have HB := Lib.hid hB
        have HFL := Lib.hid hfl
        have HV := Lib.hid ((HG.out.v.extra (X' := fun g => g = t8) (fun g e => .inr (by rw [HT8.out, e]; exact Nat.le_refl _))).mark hB (by rw [HT8.out]; omega) hK)
        have cc1 := HV.out.b1.cell
        have cc6 := HV.out.b6.cell
        have cc8 := z8.cell
        have cc9 := z9.cell
        have hRW := Lib.hid (HR.out.below HV.out.below)
        clear hpre hx hf z8 z9 z10 hB hszf hK hfl
        by_cases hb6 : best < 6
        · have d6 : decide ((best : Int) < 6) = true := decide_eq_true (by omega)
          have HN := Lib.hid (note_any p1 p4 a n c b (p6 + 1) mb cnt _ S at' W HV.out.b1.cell HV.out.b4.cell hRW.out HV.out.gr (HV.out.no (fun g e => by rw [e]; exact Z8.out.lt)) hcnt hn (by omega) (.inl (by have := HV.out.ps; omega)) (by have := HV.out.ps; omega) HV.out.b6.lt)
          go_wp2_with fail
          refine HN.out.mono ?_
          rintro e W2 ⟨⟨v2, rfl⟩, hg2, hs2⟩
          have HV2 := Lib.hid (HV.out.note hs2 hg2)
          have c6 := HV2.out.b6.cell
          have f6 := HV2.out.b6.frozen
          clear hg2 hs2
          go_wp2_with fail
          have hst := (HV2.out.setAt (at' + 1)).extra (X' := fun _ => False) (fun g e => e.elim)
          have hca : ((at' + 1 : Nat) : Int) = (at' : Int) + 1 := by omega
          refine ⟨⟨at' + 1, frm, cnt + 1, _, out, r, D :: Ds, ⟨by rw [hca] at hst; exact hst, HG.out.inv.no (by omega) (by rw [HQE.out]; exact HFL.out) hb6, by have := HG.out.cnt; omega⟩, fr_intro _ _ rfl⟩, ?_⟩
          have hcm := hst.b6.cell
          rw [hca] at hcm
          rw [hcm, HG.out.v.b6.cell]
          simp [intOf]
          omega
        · have d6 : decide ((best : Int) < 6) = false := decide_eq_false (by omega)
          obtain ⟨pl0, pl1, pl2, _⟩ := HG.out.inv.yes (by omega) (by omega) (by rw [HQE.out]; exact HFL.out) (show 6 ≤ best by omega) S (fun k i h => .inl h)
          obtain ⟨pN, rfl⟩ := Int.eq_ofNat_of_zero_le pl0
          have HYES := Lib.hid (fun S' hS' => (HG.out.inv.yes (by omega) (by omega) (by rw [HQE.out]; exact HFL.out) (show 6 ≤ best by omega) S' hS').2.2.2)
          obtain ⟨d, hd⟩ : ∃ d, at' - pN = d := ⟨_, rfl⟩
          have hd2 : (at' : Int) - (pN : Int) = (d : Int) := by omega
          have hpN : ((pN : Int)).toNat = pN := rfl
          rw [hpN, hd] at HYES
          obtain ⟨lr, hlr⟩ : ∃ x, out.length = x := ⟨_, rfl⟩
          have hlr2 : lr ≤ 3000001 := by have := HG.out.inv.short; omega
          obtain ⟨ar, cr, hrv⟩ := HG.out.v.own.shapeN lr hlr
          subst hrv
          have HSL : Hid (((b.drop frm).take (at' - frm)).length ≤ 100000) := by show _ ≤ _; rw [List.length_take]; omega
          have HLL : Hid ((litL out ((b.drop frm).take (at' - frm))).length ≤ 4000000) := by
            have := HSL.out
            have := varF_len 9 (2 * (((b.drop frm).take (at' - frm)).length : Int))
            show _ ≤ _
            unfold litL litT'
            split
            · omega
            · simp only [List.length_append] at *; omega
          have hif : (if at' = frm then a else Option.map (fun x => x.add frm) a) = subAt at' frm a := rfl
          have hac : at' ≤ c := Nat.le_trans i2 HR.out.cap
          have hwd : IntKind.i64.wrap (d : Int) = d := IntWalk.i64_in _ (by omega)
          clear pl0 pl1 hlr hpN hd
          go_wp2_with fail
          refine' reg_free (G := Kept) (pickF [eqV _, eqV _, eqV _, eqV _, eqV _, isBytes ((b.drop frm).take (at' - frm)), isBytes (litL out ((b.drop frm).take (at' - frm))), eqV _, eqV _, eqV _, eqV _, (fun v w => Owns .u8 5 w W.heap.size v (copL (litL out ((b.drop frm).take (at' - frm))) best d)), (fun v w => Owns .u8 5 w W.heap.size v (copL (litL out ((b.drop frm).take (at' - frm))) best d))]) [53, 54, 55, 56, 57, 58, 59, 60, 61, 62, 63, 64, 3] [[], [], [], [], [], [1, 2, 3, 4], [0, 5], [], [], [], [8, 9], [6, 7, 10], [11]] [0, 1, 2, 3, 4, 5, 6, 7, 8, 9, 10, 11, 12] (by kernel_rfl) Kept.refl Kept.trans (pick_stays ⟨eqV_stays _, eqV_stays _, eqV_stays _, eqV_stays _, eqV_stays _, isBytes_stays _, isBytes_stays _, eqV_stays _, eqV_stays _, eqV_stays _, eqV_stays _, fun _ _ _ p b => Owns.below p b, fun _ _ _ p b => Owns.below p b, trivial⟩) 86 rfl (by kernel_rfl) (by kernel_rfl) rfl rfl ?r3obl ?r3fin
          case r3obl =>
            refine And.intro ?r3o0 (And.intro ?r3o1 (And.intro ?r3o2 (And.intro ?r3o3 (And.intro ?r3o4 (And.intro ?r3o5 (And.intro ?r3o6 (And.intro ?r3o7 (And.intro ?r3o8 (And.intro ?r3o9 (And.intro ?r3o10 (And.intro ?r3o11 (And.intro ?r3o12 (True.intro)))))))))))))
            case r3o0 =>
              intro w1 hG
              refine turn_on (by rfl) ?_
              intro K hK
              go_simp
              refine hK _ _ ⟨rfl, Kept.refl _, ?_⟩
              show _ = _
              simp only [List.getD_cons_zero, List.getD_cons_succ, Array.getD_eq_getD_getElem?, List.getElem?_toArray, List.getElem?_cons_zero, List.getElem?_cons_succ, Option.getD_some]
              rfl
            case r3o1 =>
              intro w1 hG
              refine turn_on (by rfl) ?_
              intro K hK
              have hc := (boxed_blw (show Boxed W.drew _ _ _ from HV.out.b1) hG).cell
              go_simp
              refine hK _ _ ⟨rfl, Kept.refl _, ?_⟩
              show _ = _
              simp only [List.getD_cons_zero, List.getD_cons_succ, Array.getD_eq_getD_getElem?, List.getElem?_toArray, List.getElem?_cons_zero, List.getElem?_cons_succ, Option.getD_some]
              rfl
            case r3o2 =>
              intro w1 hG
              refine turn_on (by rfl) ?_
              intro K hK
              go_simp
              refine hK _ _ ⟨rfl, Kept.refl _, ?_⟩
              show _ = _
              simp only [List.getD_cons_zero, List.getD_cons_succ, Array.getD_eq_getD_getElem?, List.getElem?_toArray, List.getElem?_cons_zero, List.getElem?_cons_succ, Option.getD_some]
              rfl
            case r3o3 =>
              intro w1 hG
              refine turn_on (by rfl) ?_
              intro K hK
              have hc := (boxed_blw (show Boxed W.drew _ _ _ from HV.out.b6) hG).cell
              go_simp
              refine hK _ _ ⟨rfl, Kept.refl _, ?_⟩
              show _ = _
              simp only [List.getD_cons_zero, List.getD_cons_succ, Array.getD_eq_getD_getElem?, List.getElem?_toArray, List.getElem?_cons_zero, List.getElem?_cons_succ, Option.getD_some]
              rfl
            case r3o4 =>
              intro w1 hG
              refine turn_on (by rfl) ?_
              intro K hK
              have hc := (boxed_blw (show Boxed W.drew _ _ _ from HV.out.b6) hG).cell
              go_simp
              refine hK _ _ ⟨rfl, Kept.refl _, ?_⟩
              show _ = _
              simp only [List.getD_cons_zero, List.getD_cons_succ, Array.getD_eq_getD_getElem?, List.getElem?_toArray, List.getElem?_cons_zero, List.getElem?_cons_succ, Option.getD_some]
              rfl
            case r3o5 =>
              intro w1 hG
              intro v1 h1
              change _ = _ at h1
              subst h1
              intro v2 h2
              change _ = _ at h2
              subst h2
              intro v3 h3
              change _ = _ at h3
              subst h3
              intro v4 h4
              change _ = _ at h4
              subst h4
              refine turn_on (by rfl) ?_
              intro K hK
              simp only [List.getD_cons_zero, List.getD_cons_succ, List.setIfInBounds_toArray, List.set_cons_zero, List.set_cons_succ]
              go_simp
              refine hK _ _ ⟨rfl, Kept.refl _, ?_⟩
              show isBytes _ _ _
              simp only [List.getD_cons_zero, List.getD_cons_succ, Array.getD_eq_getD_getElem?, List.getElem?_toArray, List.getElem?_cons_zero, List.getElem?_cons_succ, Option.getD_some]
              exact ⟨_, _, _, rfl, RdAt.keptD (rd_part hRW.out frm at' i1 i2) hG⟩
            case r3o6 =>
              intro w1 hG
              intro v0 h0
              change _ = _ at h0
              subst h0
              intro v5 h5
              obtain ⟨a5, n5, c5, rfl, h5⟩ := h5
              refine turn_on (by rfl) ?_
              intro K hK
              simp only [List.getD_cons_zero, List.getD_cons_succ, List.setIfInBounds_toArray, List.set_cons_zero, List.set_cons_succ]
              go_simp
              refine Calls.mono (literal_any w.heap.size _ _ _ _ _ _ _ _ _ (Owns.below (w := W.drew) HV.out.own hG) (Nat.le_trans HV.out.below.size hG.size) h5 (by omega) (by have := h5.len; have := HSL.out; omega)) ?_
              rintro e w2 ⟨⟨vv, rfl, ho2⟩, hb2⟩
              refine hK _ _ ⟨rfl, hb2, ?_⟩
              show isBytes _ _ _
              simp only [List.getD_cons_zero, List.getD_cons_succ, Array.getD_eq_getD_getElem?, List.getElem?_toArray, List.getElem?_cons_zero, List.getElem?_cons_succ, Option.getD_some]
              exact ho2.isBytes
            case r3o7 =>
              intro w1 hG
              refine turn_on (by rfl) ?_
              intro K hK
              have hc := (boxed_blw (show Boxed W.drew _ _ _ from Z8.out) hG).cell
              go_simp
              refine hK _ _ ⟨rfl, Kept.refl _, ?_⟩
              show _ = _
              simp only [List.getD_cons_zero, List.getD_cons_succ, Array.getD_eq_getD_getElem?, List.getElem?_toArray, List.getElem?_cons_zero, List.getElem?_cons_succ, Option.getD_some]
              rfl
            case r3o8 =>
              intro w1 hG
              refine turn_on (by rfl) ?_
              intro K hK
              have hc := (boxed_blw (show Boxed W.drew _ _ _ from HV.out.b6) hG).cell
              go_simp
              refine hK _ _ ⟨rfl, Kept.refl _, ?_⟩
              show _ = _
              simp only [List.getD_cons_zero, List.getD_cons_succ, Array.getD_eq_getD_getElem?, List.getElem?_toArray, List.getElem?_cons_zero, List.getElem?_cons_succ, Option.getD_some]
              rfl
            case r3o9 =>
              intro w1 hG
              refine turn_on (by rfl) ?_
              intro K hK
              have hc := (boxed_blw (show Boxed W.drew _ _ _ from Z9.out) hG).cell
              go_simp
              refine hK _ _ ⟨rfl, Kept.refl _, ?_⟩
              show _ = _
              simp only [List.getD_cons_zero, List.getD_cons_succ, Array.getD_eq_getD_getElem?, List.getElem?_toArray, List.getElem?_cons_zero, List.getElem?_cons_succ, Option.getD_some]
              rfl
            case r3o10 =>
              intro w1 hG
              intro v8 h8
              change _ = _ at h8
              subst h8
              intro v9 h9
              change _ = _ at h9
              subst h9
              refine turn_on (by rfl) ?_
              intro K hK
              simp only [List.getD_cons_zero, List.getD_cons_succ, List.setIfInBounds_toArray, List.set_cons_zero, List.set_cons_succ]
              go_simp
              refine hK _ _ ⟨rfl, Kept.refl _, ?_⟩
              show _ = _
              simp only [List.getD_cons_zero, List.getD_cons_succ, Array.getD_eq_getD_getElem?, List.getElem?_toArray, List.getElem?_cons_zero, List.getElem?_cons_succ, Option.getD_some]
              rfl
            case r3o11 =>
              intro w1 hG
              intro v6 h6
              obtain ⟨a6, n6, c6, rfl, h6⟩ := h6
              intro v7 h7
              change _ = _ at h7
              subst h7
              intro v10 h10
              change _ = _ at h10
              subst h10
              refine turn_on (by rfl) ?_
              intro K hK
              simp only [List.getD_cons_zero, List.getD_cons_succ, List.setIfInBounds_toArray, List.set_cons_zero, List.set_cons_succ]
              go_simp
              refine Calls.mono (copied_any W.heap.size _ _ _ _ best d _ h6 hG.size (by have := h6.len; have := HLL.out; omega) (by omega) (by omega)) ?_
              rintro e w2 ⟨⟨vv, rfl, ho2⟩, hb2⟩
              refine hK _ _ ⟨rfl, hb2, ?_⟩
              show Owns _ _ _ _ _ _
              simp only [List.getD_cons_zero, List.getD_cons_succ, Array.getD_eq_getD_getElem?, List.getElem?_toArray, List.getElem?_cons_zero, List.getElem?_cons_succ, Option.getD_some]
              exact ho2
            case r3o12 =>
              intro w1 hG
              intro v11 h11
              refine turn_on (by rfl) ?_
              intro K hK
              simp only [List.getD_cons_zero, List.getD_cons_succ, List.setIfInBounds_toArray, List.set_cons_zero, List.set_cons_succ]
              go_simp
              refine hK _ _ ⟨rfl, Kept.refl _, ?_⟩
              show Owns _ _ _ _ _ _
              simp only [List.getD_cons_zero, List.getD_cons_succ, Array.getD_eq_getD_getElem?, List.getElem?_toArray, List.getElem?_cons_zero, List.getElem?_cons_succ, Option.getD_some]
              exact h11
          intro w1 hG
          intro v0 h0
          change _ = _ at h0
          subst h0
          intro v1 h1
          change _ = _ at h1
          subst h1
          intro v2 h2
          change _ = _ at h2
          subst h2
          intro v3 h3
          change _ = _ at h3
          subst h3
          intro v4 h4
          change _ = _ at h4
          subst h4
          intro v5 h5
          obtain ⟨a5, n5, c5, rfl, h5⟩ := h5
          intro v6 h6
          obtain ⟨a6, n6, c6, rfl, h6⟩ := h6
          intro v7 h7
          change _ = _ at h7
          subst h7
          intro v8 h8
          change _ = _ at h8
          subst h8
          intro v9 h9
          change _ = _ at h9
          subst h9
          intro v10 h10
          change _ = _ at h10
          subst h10
          intro v11 h11
          intro v12 h12
          simp only [Given, List.getD_cons_zero, List.getD_cons_succ, List.setIfInBounds_toArray, List.set_cons_zero, List.set_cons_succ]
          replace h12 : Owns .u8 5 w1 W.heap.size v12 (copL (litL out ((b.drop frm).take (at' - frm))) best d) := h12
          have hb3 : Below W.heap.size W w1 := ⟨hG.os, hG.tape, hG.output, hG.size, fun j hj => hG.block j hj⟩
          have HV3 := Lib.hid (HV.out.newrow hb3 h12)
          have Z83 := Lib.hid (boxed_blw Z8.out hb3)
          obtain ⟨out3, ho3⟩ : ∃ x, copL (litL out ((b.drop frm).take (at' - frm))) best d = x := ⟨_, rfl⟩
          rw [ho3] at HV3 HYES
          have HRW3 := Lib.hid (hRW.out.below hb3)
          have c8 := Z83.out.cell
          clear h5 h6 h11 h12 hb3 ho3 hif hd2 hwd cc1 cc6 cc8 cc9
          go_wp2_with fail
          clear c8
          go_loopw [66] (fun v wl => ∃ (k cnt2 : Nat) (S2 : Int → List Int), k ≤ best ∧ v = .int .i64 k ∧ cnt2 ≤ cnt + k ∧ Hid (GV a n c p1 mb p4 p6 at' cnt2 S2 out3 v12 (D :: Ds) (fun g => g = t8) w wl) ∧ Hid (Boxed wl t8 3 (.int .i64 best)) ∧ Hid (∀ key i, i ∈ S2 key → i ∈ S key ∨ ((at' : Int) ≤ i ∧ i < (at' : Int) + k))) (fun v _ => best - (intOf v).toNat)
          case atStart => exact ⟨0, cnt, S, Nat.zero_le _, rfl, Nat.le_refl _, HV3.out, Z83.out, fun key i hi => .inl hi⟩
          case round =>
            obtain ⟨wl, rfl⟩ : ∃ wl : World, wl = wr := ⟨_, rfl⟩
            obtain ⟨k, cnt2, S2, hk, rfl, hcn, hV, hZ, hS⟩ := hrel
            have c1 := hV.out.b1.cell
            have c6 := hV.out.b6.cell
            have f6 := hV.out.b6.frozen
            have c8 := hZ.out.cell
            have hRL := Lib.hid (HR.out.below hV.out.below)
            by_cases hkb2 : k < best
            · have dk : decide ((k : Int) < (best : Int)) = true := decide_eq_true (by omega)
              by_cases h64 : k < 64
              · have dk2 : decide ((k : Int) < 64) = true := decide_eq_true (by omega)
                have hcast : ((at' + k : Nat) : Int) = (at' : Int) + (k : Int) := by omega
                have HN := note_any p1 p4 a n c b (p6 + 1) mb cnt2 _ S2 (at' + k) wl hV.out.b1.cell hV.out.b4.cell hRL.out hV.out.gr (hV.out.no (fun g e => by rw [e]; exact hZ.out.lt)) (by have := HG.out.cnt; omega) hn (by omega) (.inl (by have := hV.out.ps; omega)) (by have := hV.out.ps; omega) hV.out.b6.lt
                rw [hcast] at HN
                have HN2 := Lib.hid HN
                clear HN
                go_wp2_with fail
                refine HN2.out.mono ?_
                rintro e W5 ⟨⟨v5, rfl⟩, hg5, hs5⟩
                have HV5 := Lib.hid (hV.out.note hs5 hg5)
                have Z85 := Lib.hid (boxed_same hZ.out (hs5.block t8 hZ.out.lt (.inr (.inr (.inr rfl))) (by have h1 := hV.out.ps; have h2 := HG.out.v.b6.lt; rw [HT8.out] at h2; omega)))
                clear hg5 hs5
                go_wp2_with fail
                go_roundw
                case rel => exact ⟨k + 1, cnt2 + 1, _, by omega, by go_num, by omega, HV5, Z85, fun key i hi => by
                  rcases noteS_mem hi with h1 | h1
                  · rcases hS.out key i h1 with h2 | h2
                    · exact .inl h2
                    · exact .inr (by omega)
                  · exact .inr (by omega)⟩
                case measure => simp [intOf] <;> omega
              · have dk2 : decide ((k : Int) < 64) = false := decide_eq_false (by omega)
                go_wp2_with fail
                go_roundw
                case rel => exact ⟨k + 1, cnt2, S2, by omega, by go_num, by omega, hV, hZ, fun key i hi => by
                  rcases hS.out key i hi with h2 | h2
                  · exact .inl h2
                  · exact .inr (by omega)⟩
                case measure => simp [intOf] <;> omega
            · obtain rfl : k = best := by omega
              have dk : decide ((k : Int) < (k : Int)) = false := decide_eq_false (by omega)
              have hcast : ((at' + k : Nat) : Int) = (at' : Int) + (k : Int) := by omega
              have hst := (hV.out.setAt (at' + k)).extra (X' := fun _ => False) (fun g e => e.elim)
              rw [hcast] at hst
              have HST := Lib.hid hst
              have c6' := hst.b6.cell
              rw [hcast] at c6'
              clear hst
              go_wp2_with fail
              refine ⟨⟨at' + k, at' + k, cnt2, S2, out3, v12, D :: Ds, ⟨HST.out, HYES.out S2 hS.out, by have := HG.out.cnt; omega⟩, fr_intro _ _ rfl⟩, ?_⟩
              have hcm := HST.out.b6.cell
              rw [hcast] at hcm
              rw [hcm, HG.out.v.b6.cell]
              simp [intOf]
              omega
    · have d1 : decide ((at' : Int) + 4 ≤ (n : Int)) = false := decide_eq_false (by omega)
      have HG := Lib.hid hG
      have hif : (if c = frm then a else Option.map (fun x => x.add frm) a) = subAt c frm a := rfl
      have R2 := Lib.hid (rd_sub (HR.out.below (hp1' ▸ hG.v.below)) frm (by omega))
      obtain ⟨lr, hlr⟩ : ∃ x, out.length = x := ⟨_, rfl⟩
      have hlr2 : lr ≤ 3000001 := by have := hG.inv.short; omega
      obtain ⟨ar, cr, rfl⟩ := hG.v.own.shapeN lr hlr
      have HO := Lib.hid hG.v.own
      clear hG hlr
      go_wp2_with fail
      refine (literal_any w.heap.size _ _ _ _ _ _ _ _ _ HO.out HG.out.v.below.size R2.out (by omega) (by omega)).mono ?_
      rintro e W2 ⟨⟨v2, rfl, ho2⟩, hb2⟩
      have HO2 := Lib.hid ho2
      have HB2 := Lib.hid hb2
      have HG2 := Lib.hid (HG.out.keep hb2)
      clear ho2 hb2
      go_wp2_with fail
      show LeavesInM _ _ _ _ _ _ (Ds.map MkD) _ _
      refine leaves_marks Ds W2 HG.out.v.nodup (fun D hD => (HG2.out.v.marks D hD).2) (fun W3 s => ?_)
      have hms : ∀ D ∈ Ds, W2.heap[D]? = some (.deferred (some [])) := fun D hD => (HG2.out.v.marks D hD).2
      refine ⟨v2, results_tmp (t := 2) rfl _ _ _, ⟨_, _, rfl, HO2.out.shut s hms, ?_⟩, ?_⟩
      · exact HG.out.inv.done (by omega) (by omega)
      · exact (Below.call HG.out.v.below HB2.out).trans (s.below (fun D hD => by have h1 := (HG.out.v.marks D hD).1; have h2 := HG.out.v.ps; omega))
end Go.Proofs.Ytfoabnoolmeoiaa
