/- The document's machine is made (New). Both machines side by side: a play under way. -/
import Derived.Test.YtnbjodoajfkekaaGreatMu0
import Derived.Test.YtnbjodoajfkekaaGreatMp1
import Derived.Test.YtnbjodoajfkekaaGreatMu20
import Derived.WalkKit
import Derived.ProofKit
import Derived.BigQuiet
import Derived.Deep.QuietTactic
import Derived.Lib.Hide
import Derived.RegionTactic
import Derived.Test.YtnbjodoajfkekaaGreatMp14
import Derived.Test.YtnbjodoajfkekaaGreatMu24
import Derived.Test.YtnbjodoajfkekaaGreatMp13
namespace Go.Proofs.YtnbjodoajfkekaaGreat
open Go.RowKit
set_option linter.unusedSimpArgs false
set_option maxRecDepth 100000 in
theorem mkI6 : (Tryz.prog.info? 81).map (fun i => (i.zero, i.size, i.bytes)) = some (some (.pointer none), 1, 8) := by kernel_rfl
set_option maxRecDepth 100000 in
theorem mk_ptrs (n : Nat) (hn : n ≤ 1000000) (w : World) : (Instr.makeSlice 72 (.int .i64 (n : Int)) (.int .i64 (n : Int))).run Tryz.prog w = .ok (.slice (some ⟨w.heap.size, 0, none⟩) n n) (w.alloc (.cells (List.replicate n (.pointer none)).toArray 81)) := by
 obtain ⟨i, hi, hz, hs, hb⟩ := info_parts mkI6
 have hr := run_make (P := Tryz.prog) w 72 81 i (.pointer none) Tryz.underlying72 hi hz .i64 .i64 n n (by omega) (Int.le_refl _) (by rw [hb]; omega) (by omega)
 rw [hr, hs, Int.toNat_natCast, Nat.mul_one]
 congr 4
 rw [show (Value.pointer none).cells = #[.pointer none] from rfl, ← toList_madeCells_one]
theorem mc0_has (c : Cf) (p : Int) : (mc0 c).has p = false := by
 unfold Mc.has hasB mc0
 simp
section
variable (c : Cf) (w : World)
set_option maxHeartbeats 2000000 in
set_option maxRecDepth 100000 in
theorem rnew18_no (h : ¬ CfOk c) : Calls Tryz.prog 10 #[c.val] w fun e w' => e = .returned (.tuple #[.pointer none, .int .i64 1]) ∧ Below w.heap.size w w' := by
 have hrow := heap_alloc_new w (.cells #[.int .i64 c.a0, .int .i64 c.a1, .int .i64 c.a2, .int .i64 c.a3, .int .i64 c.page, .int .i64 c.a5, .int .i64 c.procs, .int .i64 c.regions, .int .i64 c.pages] 23)
 have hb0 := below_a w (.cells #[.int .i64 c.a0, .int .i64 c.a1, .int .i64 c.a2, .int .i64 c.a3, .int .i64 c.page, .int .i64 c.a5, .int .i64 c.procs, .int .i64 c.regions, .int .i64 c.pages] 23)
 obtain ⟨y0, y1, y2, y3, y4, y5, y6, y7, y8⟩ := cells9 hrow
 have HROW := Lib.hid hrow; have HB0 := Lib.hid hb0
 unfold Cf.val
 clear hrow hb0
 by_cases e0 : c.page < 16
 ·have d0 : decide (c.page < 16) = true := decide_eq_true e0
  clear h
  go_enter Tryz.func10, Tryz.ntmps10
  go_wp2
  go_ret2
  exact ⟨rfl, HB0.out⟩
 have d0 : decide (c.page < 16) = false := decide_eq_false e0
 by_cases e1 : 4096 < c.page
 ·have d1 : decide (4096 < c.page) = true := decide_eq_true e1
  clear h
  go_enter Tryz.func10, Tryz.ntmps10
  go_wp2
  go_ret2
  exact ⟨rfl, HB0.out⟩
 have d1 : decide (4096 < c.page) = false := decide_eq_false e1
 by_cases e2 : c.procs < 1
 ·have d2 : decide (c.procs < 1) = true := decide_eq_true e2
  clear h
  go_enter Tryz.func10, Tryz.ntmps10
  go_wp2
  go_ret2
  exact ⟨rfl, HB0.out⟩
 have d2 : decide (c.procs < 1) = false := decide_eq_false e2
 by_cases e3 : 64 < c.procs
 ·have d3 : decide (64 < c.procs) = true := decide_eq_true e3
  clear h
  go_enter Tryz.func10, Tryz.ntmps10
  go_wp2
  go_ret2
  exact ⟨rfl, HB0.out⟩
 have d3 : decide (64 < c.procs) = false := decide_eq_false e3
 by_cases e4 : c.regions < 1
 ·have d4 : decide (c.regions < 1) = true := decide_eq_true e4
  clear h
  go_enter Tryz.func10, Tryz.ntmps10
  go_wp2
  go_ret2
  exact ⟨rfl, HB0.out⟩
 have d4 : decide (c.regions < 1) = false := decide_eq_false e4
 by_cases e5 : 32 < c.regions
 ·have d5 : decide (32 < c.regions) = true := decide_eq_true e5
  clear h
  go_enter Tryz.func10, Tryz.ntmps10
  go_wp2
  go_ret2
  exact ⟨rfl, HB0.out⟩
 have d5 : decide (32 < c.regions) = false := decide_eq_false e5
 by_cases e6 : c.pages < 1
 ·have d6 : decide (c.pages < 1) = true := decide_eq_true e6
  clear h
  go_enter Tryz.func10, Tryz.ntmps10
  go_wp2
  go_ret2
  exact ⟨rfl, HB0.out⟩
 have d6 : decide (c.pages < 1) = false := decide_eq_false e6
 by_cases e7 : 65536 < c.pages
 ·have d7 : decide (65536 < c.pages) = true := decide_eq_true e7
  clear h
  go_enter Tryz.func10, Tryz.ntmps10
  go_wp2
  go_ret2
  exact ⟨rfl, HB0.out⟩
 have d7 : decide (65536 < c.pages) = false := decide_eq_false e7
 exact absurd (⟨by omega, by omega, by omega, by omega⟩ : CfOk c) h
set_option maxHeartbeats 2000000 in
set_option maxRecDepth 100000 in
theorem rnew18_yes (h : CfOk c) : Calls Tryz.prog 10 #[c.val] w fun e w' => ∃ hh : RmH, e = .returned (.tuple #[.pointer (some ⟨hh.m, 0, none⟩), .int .i64 0]) ∧ RmIn w' (hh.own (mc0 c)) hh (mc0 c) ∧ (∀ k, hh.own (mc0 c) k → w.heap.size ≤ k) ∧ w.heap.size ≤ hh.m ∧ Below w.heap.size w w' := by
 have hrow := heap_alloc_new w (.cells #[.int .i64 c.a0, .int .i64 c.a1, .int .i64 c.a2, .int .i64 c.a3, .int .i64 c.page, .int .i64 c.a5, .int .i64 c.procs, .int .i64 c.regions, .int .i64 c.pages] 23)
 have hb0 := below_a w (.cells #[.int .i64 c.a0, .int .i64 c.a1, .int .i64 c.a2, .int .i64 c.a3, .int .i64 c.page, .int .i64 c.a5, .int .i64 c.procs, .int .i64 c.regions, .int .i64 c.pages] 23)
 obtain ⟨y0, y1, y2, y3, y4, y5, y6, y7, y8⟩ := cells9 hrow
 have HROW := Lib.hid hrow; have HB0 := Lib.hid hb0
 unfold Cf.val
 clear hrow hb0
 have HOK := Lib.hid (mc0_ok h)
 have hcp := h.procs
 obtain ⟨n, hn⟩ := Int.eq_ofNat_of_zero_le (show 0 ≤ c.procs by omega)
 have HPR : Hid ((mc0 c).pr = n) := by show c.procs.toNat = n; rw [hn]; rfl
 have HCN := Lib.hid hn
 have hnn : 1 ≤ n ∧ n ≤ 64 := by omega
 have d0 : decide (c.page < 16) = false := decide_eq_false (by have h1 := h.page; have h2 := h.procs; have h3 := h.regions; have h4 := h.pages; omega)
 have d1 : decide (4096 < c.page) = false := decide_eq_false (by have h1 := h.page; have h2 := h.procs; have h3 := h.regions; have h4 := h.pages; omega)
 have d2 : decide (c.procs < 1) = false := decide_eq_false (by have h1 := h.page; have h2 := h.procs; have h3 := h.regions; have h4 := h.pages; omega)
 have d3 : decide (64 < c.procs) = false := decide_eq_false (by have h1 := h.page; have h2 := h.procs; have h3 := h.regions; have h4 := h.pages; omega)
 have d4 : decide (c.regions < 1) = false := decide_eq_false (by have h1 := h.page; have h2 := h.procs; have h3 := h.regions; have h4 := h.pages; omega)
 have d5 : decide (32 < c.regions) = false := decide_eq_false (by have h1 := h.page; have h2 := h.procs; have h3 := h.regions; have h4 := h.pages; omega)
 have d6 : decide (c.pages < 1) = false := decide_eq_false (by have h1 := h.page; have h2 := h.procs; have h3 := h.regions; have h4 := h.pages; omega)
 have d7 : decide (65536 < c.pages) = false := decide_eq_false (by have h1 := h.page; have h2 := h.procs; have h3 := h.regions; have h4 := h.pages; omega)
 rw [hn] at y6
 have HCS := Lib.hid (rnew_yes n (w.alloc (.cells #[.int .i64 c.a0, .int .i64 c.a1, .int .i64 c.a2, .int .i64 c.a3, .int .i64 c.page, .int .i64 c.a5, .int .i64 c.procs, .int .i64 c.regions, .int .i64 c.pages] 23)) hnn.1 hnn.2)
 simp only [hn] at HCS d2 d3 y0 y1 y2 y3 y4 y5 y7 y8 HB0 HROW
 rw [hn]; clear h hcp hn
 go_enter Tryz.func10, Tryz.ntmps10
 go_wp2_with fail
 refine HCS.out.mono ?_
 rintro e w3 ⟨g, gl, rfl, hg1, hg2, hset, hb3⟩
 have HB3 := Lib.hid (Below.call HB0.out hb3)
 have HST := Lib.hid hset; replace y0 := cel hb3 y0; replace y1 := cel hb3 y1; replace y2 := cel hb3 y2; replace y3 := cel hb3 y3; replace y4 := cel hb3 y4; replace y5 := cel hb3 y5
 replace y6 := cel hb3 y6; replace y7 := cel hb3 y7; replace y8 := cel hb3 y8
 have HG1 : Hid (w.heap.size ≤ g ∧ w.heap.size ≤ gl) := by
  have h1 := HB0.out.size
  exact ⟨by omega, by omega⟩
 clear hset hb3 hg1 hg2 HCS; go_wp2_with fail
 refine' reg_free (G := Kept) (pickF [eqV _, eqV _, eqV _, eqV _, (fun v w5 => ∃ p, v = .slice (some ⟨p, 0, none⟩) n n ∧ w3.heap.size ≤ p ∧ w5.heap[p]? = some (.cells (List.replicate n (.pointer none)).toArray 81 (0, 0))), (fun v w5 => ∃ p, v = .agg #[.int .i64 c.a0, .int .i64 c.a1, .int .i64 c.a2, .int .i64 c.a3, .int .i64 c.page, .int .i64 c.a5, .int .i64 (n : Int), .int .i64 c.regions, .int .i64 c.pages, .pointer (some ⟨g, 0, none⟩), .slice (some ⟨p, 0, none⟩) n n] ∧ w3.heap.size ≤ p ∧ w5.heap[p]? = some (.cells (List.replicate n (.pointer none)).toArray 81 (0, 0))), (fun v w5 => ∃ m p, v = .pointer (some ⟨m, 0, none⟩) ∧ w3.heap.size ≤ m ∧ w5.heap[m]? = some (.cells #[.int .i64 c.a0, .int .i64 c.a1, .int .i64 c.a2, .int .i64 c.a3, .int .i64 c.page, .int .i64 c.a5, .int .i64 (n : Int), .int .i64 c.regions, .int .i64 c.pages, .pointer (some ⟨g, 0, none⟩), .slice (some ⟨p, 0, none⟩) n n] 74 (0, 0)) ∧ w3.heap.size ≤ p ∧ w5.heap[p]? = some (.cells (List.replicate n (.pointer none)).toArray 81 (0, 0))), (fun v w5 => ∃ m p, v = .pointer (some ⟨m, 0, none⟩) ∧ w3.heap.size ≤ m ∧ w5.heap[m]? = some (.cells #[.int .i64 c.a0, .int .i64 c.a1, .int .i64 c.a2, .int .i64 c.a3, .int .i64 c.page, .int .i64 c.a5, .int .i64 (n : Int), .int .i64 c.regions, .int .i64 c.pages, .pointer (some ⟨g, 0, none⟩), .slice (some ⟨p, 0, none⟩) n n] 74 (0, 0)) ∧ w3.heap.size ≤ p ∧ w5.heap[p]? = some (.cells (List.replicate n (.pointer none)).toArray 81 (0, 0))), eqV _]) [50, 51, 52, 53, 54, 55, 56, 2, 3] [[], [], [], [2], [3], [0, 1, 4], [5], [6], []] [0, 1, 2, 3, 4, 5, 6, 7, 8] (by kernel_rfl) Kept.refl Kept.trans (pick_stays ⟨eS _, eS _, eS _, eS _, (fun _ _ _ q b => by obtain ⟨p, e, h1, h2⟩ := q; exact ⟨p, e, h1, row_keep h2 b⟩), (fun _ _ _ q b => by obtain ⟨p, e, h1, h2⟩ := q; exact ⟨p, e, h1, row_keep h2 b⟩), (fun _ _ _ q b => by obtain ⟨m, p, e, h3, h4, h1, h2⟩ := q; exact ⟨m, p, e, h3, row_keep h4 b, h1, row_keep h2 b⟩), (fun _ _ _ q b => by obtain ⟨m, p, e, h3, h4, h1, h2⟩ := q; exact ⟨m, p, e, h3, row_keep h4 b, h1, row_keep h2 b⟩), eS _, trivial⟩) 57 rfl (by kernel_rfl) (by kernel_rfl) rfl rfl ?r1obl ?r1fin
 case r1obl =>
  refine ⟨?r1o0, ?r1o1, ?r1o2, ?r1o3, ?r1o4, ?r1o5, ?r1o6, ?r1o7, ?r1o8, trivial⟩
  case r1o0 =>
   intro w1 hG; refine t1o (by rfl) ?_; intro K hK
   have hbk := kept_0 hG
   have z0 := cel hbk y0
   have z1 := cel hbk y1
   have z2 := cel hbk y2
   have z3 := cel hbk y3
   have z4 := cel hbk y4
   have z5 := cel hbk y5
   have z6 := cel hbk y6
   have z7 := cel hbk y7
   have z8 := cel hbk y8
   go_simp; refine hK _ _ ⟨rfl, Kept.refl _, ?_⟩; show _ = _; simp only [gv1]; rfl
  case r1o1 =>
   intro w1 hG; refine t1o (by rfl) ?_; intro K hK; go_simp; refine hK _ _ ⟨rfl, Kept.refl _, ?_⟩; show _ = _; simp only [gv1]; rfl
  case r1o2 =>
   intro w1 hG; refine t1o (by rfl) ?_; intro K hK; go_simp; refine hK _ _ ⟨rfl, Kept.refl _, ?_⟩; show _ = _; simp only [gv1]; rfl
  case r1o3 =>
   intro w1 hG; intro v2 h2; change _ = _ at h2; subst h2; refine t1o (by rfl) ?_; intro K hK; simp only [gv2]
   have hbk := kept_0 hG
   have z6 := cel hbk y6
   go_simp; refine hK _ _ ⟨rfl, Kept.refl _, ?_⟩; show _ = _; simp only [gv1]; rfl
  case r1o4 =>
   intro w1 hG; intro v3 h3; change _ = _ at h3; subst h3; refine t1o (by rfl) ?_; intro K hK; simp only [gv2]
   have hbk := kept_0 hG
   have hmk := mk_ptrs n (by have := hnn.2; omega) w1
   go_simp
   refine hK _ _ ⟨rfl, (Below.refl _ _).alloc (Nat.le_refl _) _, ?_⟩
   exact ⟨_, rfl, hbk.size, heap_alloc_new _ _⟩
  case r1o5 =>
   intro w1 hG; intro v0 h0; change _ = _ at h0; subst h0; intro v1 h1; change _ = _ at h1; subst h1; intro v4 h4
   obtain ⟨p4, rfl, hl4, h4⟩ := h4
   refine t1o (by rfl) ?_; intro K hK; simp only [gv2]; go_simp; refine hK _ _ ⟨rfl, Kept.refl _, ?_⟩
   exact ⟨p4, rfl, hl4, h4⟩
  case r1o6 =>
   intro w1 hG; intro v5 h5
   obtain ⟨p5, rfl, hl5, h5⟩ := h5
   refine t1o (by rfl) ?_; intro K hK; simp only [gv2]
   have hbk := kept_0 hG
   go_simp
   refine hK _ _ ⟨rfl, (Below.refl _ _).alloc (Nat.le_refl _) _, ?_⟩
   exact ⟨_, p5, rfl, hbk.size, heap_alloc_new _ _, hl5, row_keep h5 ((Below.refl _ _).alloc (Nat.le_refl _) _)⟩
  case r1o7 =>
   intro w1 hG; intro v6 h6
   obtain ⟨m6, p6, rfl, q1, q2, q3, q4⟩ := h6
   refine t1o (by rfl) ?_; intro K hK; simp only [gv2]; go_simp; refine hK _ _ ⟨rfl, Kept.refl _, ?_⟩
   exact ⟨m6, p6, rfl, q1, q2, q3, q4⟩
  case r1o8 =>
   intro w1 hG; refine t1o (by rfl) ?_; intro K hK; go_simp; refine hK _ _ ⟨rfl, Kept.refl _, ?_⟩; show _ = _; simp only [gv1]; rfl
 intro w1 hG; intro v0 h0; change _ = _ at h0; subst h0; intro v1 h1; change _ = _ at h1; subst h1; intro v2 h2; change _ = _ at h2; subst h2; intro v3 h3; change _ = _ at h3; subst h3; intro v4 h4
 obtain ⟨p4, rfl, hl4, h4⟩ := h4
 intro v5 h5
 obtain ⟨p5, rfl, hl5, h5⟩ := h5
 intro v6 h6
 obtain ⟨m6, p6, rfl, q1, q2, q3, q4⟩ := h6
 intro v7 h7
 obtain ⟨m7, p7, rfl, q1, q2, q3, q4⟩ := h7
 intro v8 h8; change _ = _ at h8; subst h8
 simp only [Given, gv2]
 have hbk := kept_0 hG
 have HF := Lib.hid (Below.call HB3.out hbk)
 have hsz := HB3.out.size
 have hst := HST.out.below hbk
 have hlt := HST.out.lt
 have Q1 := Lib.hid q1; have Q2 := Lib.hid q2; have Q3 := Lib.hid q3; have Q4 := Lib.hid q4; have HS := Lib.hid hst; have HLT := Lib.hid hlt; have HSZ := Lib.hid hsz; clear hG hbk q1 q2 q3 q4 hst hlt hsz y0 y1 y2 y3 y4 y5 y6 y7 y8; go_wp2_with fail
 go_ret2
 have hne : m7 ≠ p7 := fun e => by
  have h1 := Q2.out
  rw [e, Q4.out] at h1
  injection h1 with h1
  injection h1 with _ h2 _
  exact absurd h2 (by decide)
 have hmp := Q1.out
 have hpp := Q3.out
 have hl := HLT.out
 have hgg := HG1.out
 have hsz := HSZ.out
 have ho : ∀ k, RmH.own ⟨m7, g, gl, p7, fun _ => default⟩ (mc0 c) k → k = gl ∨ k = p7 := fun k hk => by
  rcases hk with hk | hk | ⟨q, hq, _⟩
  ·exact .inl hk
  ·exact .inr hk
  ·rw [mc0_has] at hq; cases hq
 have hgne := HS.out.ne
 refine ⟨⟨m7, g, gl, p7, fun _ => default⟩, rfl, ⟨?_, ⟨n, [], ?_⟩, ?_, fun q hq => (by rw [mc0_has] at hq; cases hq), HOK.out, ⟨.inl rfl, .inr (.inl rfl), fun hk => ?_, fun hk => ?_⟩, fun q _ _ hq => (by rw [mc0_has] at hq; cases hq), ⟨?_, fun q hq => (by rw [mc0_has] at hq; cases hq)⟩, fun k hk => ?_⟩, fun k hk => ?_, ?_, HF.out⟩
 ·show w1.heap[m7]? = some (rmRow ⟨m7, g, gl, p7, fun _ => default⟩ (mc0 c))
  unfold rmRow
  rw [HPR.out]
  show w1.heap[m7]? = some (Obj.cells #[.int .i64 c.a0, .int .i64 c.a1, .int .i64 c.a2, .int .i64 c.a3, .int .i64 c.page, .int .i64 c.a5, .int .i64 c.procs, .int .i64 c.regions, .int .i64 c.pages, .pointer (some ⟨g, 0, none⟩), .slice (some ⟨p7, 0, none⟩) n n] 74 (0, 0))
  rw [HCN.out]
  exact Q2.out
 ·rw [HPR.out]
  exact HS.out.c hnn.2
 ·show w1.heap[p7]? = _
  rw [Q4.out]
  unfold prRow
  rw [HPR.out]
  congr 3
  apply List.ext_getElem?
  intro i
  by_cases hi : i < n
  ·rw [List.getElem?_replicate, if_pos hi, List.getElem?_map, List.getElem?_range hi]
   show _ = some (prV _ (mc0 c) (i : Int))
   unfold prV
   rw [if_neg (by rw [mc0_has]; decide)]
  ·rw [List.getElem?_replicate, if_neg hi, List.getElem?_eq_none (by simp; omega)]
 ·rcases ho _ hk with hk | hk
  ·replace hk : m7 = gl := hk; omega
  ·exact hne hk
 ·rcases ho _ hk with hk | hk
  ·exact hgne hk
  ·replace hk : g = p7 := hk; omega
 ·show gl ≠ p7; omega
 ·rcases ho _ hk with hk | hk
  ·have := HS.out.lt.2; omega
  ·have := (Array.getElem?_eq_some_iff.1 Q4.out).1; omega
 ·rcases ho _ hk with hk | hk
  ·omega
  ·omega
 ·show w.heap.size ≤ m7; omega
end
structure OpC (w : World) (No : Nat → Prop) (b off : Nat) (A : OpP) (ta : Option Addr) (tn tc : Nat) : Prop where
 c : w.cell? ⟨b, off, none⟩ = some (.int .i64 A.kind) ∧ w.cell? ⟨b, off + 1, none⟩ = some (.int .i64 A.pid) ∧ w.cell? ⟨b, off + 2, none⟩ = some (.int .i64 A.at_) ∧ w.cell? ⟨b, off + 3, none⟩ = some (.int .i64 A.n) ∧ w.cell? ⟨b, off + 4, none⟩ = some (.int .i64 A.prot) ∧ w.cell? ⟨b, off + 5, none⟩ = some (.slice ta tn tc)
 rd : RdAt .u8 w ta tn tc A.data
 nx : ∀ x, ta = some x → 0 < tn → ¬ No x.block
 no : ¬ No b
theorem OpC.tn {w w' : World} {No Q : Nat → Prop} {b off tn tc : Nat} {A : OpP} {ta : Option Addr} (h : OpC w No b off A ta tn tc) (t : Tn Q w w') (hq : ∀ k, Q k → No k) : OpC w' No b off A ta tn tc := by
 obtain ⟨y0, y1, y2, y3, y4, y5⟩ := h.c
 have hb : ¬ Q b := fun e => h.no (hq _ e)
 have hc : ∀ {i v}, w.cell? ⟨b, i, none⟩ = some v → w'.cell? ⟨b, i, none⟩ = some v := fun {i v} e => (World.cell?_of_block (a := ⟨b, i, none⟩) (t.block b (block_lt_of_cell e) hb)).trans e
 exact ⟨⟨hc y0, hc y1, hc y2, hc y3, hc y4, hc y5⟩, h.rd.tn t (fun x hx' h0 e => h.nx x hx' h0 (hq _ e)), h.nx, h.no⟩
theorem OpC.below {w w' : World} {No : Nat → Prop} {b off tn tc : Nat} {A : OpP} {ta : Option Addr} (h : OpC w No b off A ta tn tc) (k : Below w.heap.size w w') : OpC w' No b off A ta tn tc := h.tn (Tn.of (Q := fun _ => False) k) (fun _ h => h.elim)
theorem OpsIn.opC {w : World} {No : Nat → Prop} {a : Option Addr} {n k : Nat} {L : List OpP} (h : OpsIn w No a n L) {A : OpP} (hA : L[k]? = some A) : ∃ b o ta tn tc, a = some ⟨b, o, none⟩ ∧ OpC w No b (o + k * 6) A ta tn tc := by
 obtain ⟨b, o, e, ho⟩ := h.at_ k A hA
 obtain ⟨ta, tn, tc, ⟨y0, y1, y2, y3, y4, y5, hr⟩, hx⟩ := ho.ex
 exact ⟨b, o, ta, tn, tc, e, ⟨y0, y1, y2, y3, y4, y5⟩, hr, hx, ho.no⟩
theorem OpsIn.more {w w' : World} {No No' Q : Nat → Prop} {a : Option Addr} {n : Nat} {L : List OpP} (h : OpsIn w No a n L) (t : Tn Q w w') (hq : ∀ k, Q k → No k) (h2 : ∀ k, No' k → No k ∨ w.heap.size ≤ k) : OpsIn w' No' a n L :=
 ⟨h.len, fun i A hA => by
  obtain ⟨b, o, e, ho⟩ := h.at_ i A hA
  have ho' := ho.tn t hq
  obtain ⟨ta, tn, tc, y, hx⟩ := ho.ex
  have hlt : b < w.heap.size := block_lt_of_cell y.1
  have h5 := ho'.ex
  obtain ⟨ta2, tn2, tc2, y2, hx2⟩ := h5
  have ee : (Value.slice ta2 tn2 tc2) = .slice ta tn tc := by
   have e1 := (World.cell?_of_block (a := ⟨b, o + i * 6 + 5, none⟩) (t.block b hlt (fun e => ho.no (hq _ e)))).trans y.2.2.2.2.2.1
   have e2 := y2.2.2.2.2.2.1
   rw [e1] at e2
   injection e2 with e2
   exact e2.symm
  injection ee with e1 e2 e3
  subst e1 e2 e3
  refine ⟨b, o, e, ⟨_, _, _, y2, fun x hx3 h0 hk => ?_⟩, ho'.wf, fun hk => ?_⟩
  ·rcases h2 _ hk with h | h
   ·exact hx x hx3 h0 h
   ·have := y.2.2.2.2.2.2.lt x hx3 h0; omega
  ·rcases h2 _ hk with h | h
   ·exact ho.no h
   ·omega⟩
/-- A machine that is new: with more that may turn. -/
theorem RmIn.fresh {w : World} {No No' : Nat → Prop} {h : RmH} {c : Cf} (i : RmIn w No h (mc0 c)) (h1 : ∀ k, h.own (mc0 c) k → No' k) (h2 : ¬ No' h.m) (h4 : ¬ No' h.s) (h3 : ∀ k, No' k → k < w.heap.size) : RmIn w No' h (mc0 c) := by
 have h0 : ∀ p, (mc0 c).has p = true → False := fun p e => by rw [mc0_has] at e; cases e
 exact ⟨i.row, i.set, i.prow, fun q hq => (h0 q hq).elim, i.ok, ⟨h1 _ (.inl rfl), h1 _ (.inr (.inl rfl)), h2, h4⟩, fun q q' k hq => (h0 q hq).elim, ⟨i.ne.1, fun q hq => (h0 q hq).elim⟩, h3⟩
/-- A play under way. -/
structure PlS (w0 w : World) (hh : McH) (rm : Nat) (st : Mc) (a : Option Addr) (n : Nat) (L : List OpP) : Prop where
 ex : ∃ (No : Nat → Prop) (hr : RmH), McIn w No hh st ∧ RmIn w No hr st ∧ hr.m = rm ∧ (∀ k, hh.own k → ¬ hr.own st k) ∧ OpsIn w No a n L ∧ (∀ k, No k → w0.heap.size ≤ k)
 bel : Below w0.heap.size w0 w
theorem ref_set_ne {w : World} {No No2 : Nat → Prop} {h : McH} {hr : RmH} {st st2 : Mc} (i : McIn w No h st) (r : RmIn w No2 hr st2) : ¬ h.own hr.s := by
 obtain ⟨c, zs, hs⟩ := r.set
 rintro (e | e | e)
 ·have h1 := i.set
  rw [← e] at h1
  exact kinds_ne hs.row h1 (by decide) rfl
 ·obtain ⟨D, E, h1, _⟩ := i.dat
  obtain ⟨es, cl, h2, _⟩ := h1.all
  rw [← e, hs.row] at h2
  cases h2
 ·obtain ⟨D, E, _, h1, _⟩ := i.dat
  obtain ⟨es, cl, h2, _⟩ := h1.all
  rw [← e, hs.row] at h2
  cases h2
theorem PlS.start {w0 w4 w5 : World} {hh : McH} {hr : RmH} {c : Cf} {a : Option Addr} {n : Nat} {L : List OpP} (hL : OpsAt w0 a n L) (b4 : Below w0.heap.size w0 w4) (m : McIn w4 hh.own hh (mc0 c)) (hmo : ∀ k, hh.own k → w0.heap.size ≤ k)
  (b5 : Below w4.heap.size w4 w5) (r : RmIn w5 (hr.own (mc0 c)) hr (mc0 c)) (ho : ∀ k, hr.own (mc0 c) k → w4.heap.size ≤ k) (hm : w4.heap.size ≤ hr.m) : PlS w0 w5 hh hr.m (mc0 c) a n L := by
 have hlt : ∀ k, hh.own k → k < w4.heap.size := fun k hk => m.lt k hk
 have hb : Below w0.heap.size w0 w5 := b4.trans (b5.mono b4.size)
 have h3 : ∀ k, hh.own k ∨ hr.own (mc0 c) k → k < w5.heap.size := fun k hk => by
  rcases hk with hk | hk
  ·have := hlt k hk; have := b5.size; omega
  ·exact r.lt k hk
 have m5 : McIn w5 (fun k => hh.own k ∨ hr.own (mc0 c) k) hh (mc0 c) := m.more (Tn.of (Q := fun _ => False) b5) (fun _ h => h.elim) (fun k hk => .inl hk) (fun k hk => hk.imp id (ho k)) h3
 have hno : ∀ k, hh.own k ∨ hr.own (mc0 c) k → w0.heap.size ≤ k := fun k hk => by
  rcases hk with hk | hk
  ·exact hmo k hk
  ·have := ho k hk; have := b4.size; omega
 refine ⟨⟨_, hr, m5, r.fresh (fun k hk => .inr hk) (fun hk => ?_) (fun hk => ?_) h3, rfl, fun k h1 h2 => by have := hlt k h1; have := ho k h2; omega, (OpsIn.of hL hno).tn (Tn.of (Q := fun _ => False) hb) (fun _ h => h.elim), hno⟩, hb⟩
 ·rcases hk with hk | hk
  ·have := hlt _ hk; omega
  ·exact r.no.2.2.1 hk
 ·rcases hk with hk | hk
  ·exact ref_set_ne m5 r hk
  ·exact r.no.2.2.2 hk
end Go.Proofs.YtnbjodoajfkekaaGreat
