/- lz: what greedy's loop holds in memory. -/
import Derived.Test.YtfoabnoolmeoiaaLzNote
import Derived.Test.YtfoabnoolmeoiaaOrdG
import Derived.RangeFuncRecord
import Derived.RangeFuncFrom
import Derived.RangeFuncBox
namespace Go.Proofs.Ytfoabnoolmeoiaa
open Go.RowKit
/-- The mark that a range over a function leaves. -/
def MkD (D : Nat) : Deferred := { target := .collected D, args := #[] }
theorem fr_intro (A : Act) (F : (Nat → Value) → Act) (h : A = F (fun i => A.tmps.toList.getD i undef)) : ∃ f, A = F f := ⟨_, h⟩
theorem ownsInts_at {w w' : World} {base : Nat} {e : TypeId} {q : IntKind} {v : Value} {zs : List Int} (h : w.ownsInts base e q v zs) (k : ∀ g, v.ownBlock = some g → w'.heap[g]? = w.heap[g]?) : w'.ownsInts base e q v zs := by
  refine ⟨⟨h.1.1, ?_⟩, h.2⟩
  rcases h.1.2 with h1 | ⟨g, cap, cur, hv, hb, hh, r⟩
  · exact .inl h1
  · exact .inr ⟨g, cap, cur, hv, hb, by rw [k g (by rw [hv]; rfl)]; exact hh, r⟩
theorem Owns.at {k : IntKind} {e : TypeId} {w w' : World} {base : Nat} {v : Value} {l : List Int} (h : Owns k e w base v l) (hk : ∀ g, room v = some g → w'.heap[g]? = w.heap[g]?) : Owns k e w' base v l := by
  by_cases hr : room v = none
  · exact Owns.grown (w' := w) h ⟨rfl, rfl, rfl, Nat.le_refl _, fun _ _ _ => rfl⟩ (row := none) (fun g hg => by rw [hr] at hg; cases hg) |> fun h2 => by
      refine ⟨h2.1, ?_⟩
      rcases h2.2 with h3 | h3
      · exact .inl h3
      · rcases h3.2 with ⟨hv, hn⟩ | ⟨g, cap, cur, hv, hb, hh, hnc, hcm, hcs, ht⟩
        · exact .inl ⟨List.eq_nil_of_length_eq_zero hn, none, hv, fun _ h => by cases h⟩
        · have hc : cap = 0 := by
            subst hv
            unfold room at hr
            simp at hr
            exact hr
          subst hc
          have hl : l.length = 0 := by omega
          exact .inl ⟨List.eq_nil_of_length_eq_zero hl, _, by rw [hv, hl], fun x h => by injection h with h; rw [← h]⟩
  · obtain ⟨g, hg⟩ := Option.ne_none_iff_exists'.1 hr
    refine ⟨h.1, h.2.imp id fun h2 => ⟨h2.1, ?_⟩⟩
    rcases h2.2 with h3 | ⟨g', cap, cur, hv, hb, hh, r⟩
    · exact .inl h3
    · have hg' : room v = some g' := by
        have h5 := room_some hg
        rw [hv] at h5
        simp [Value.ownBlock] at h5
        rw [hg, h5]
      exact .inr ⟨g', cap, cur, hv, hb, by rw [hk g' hg']; exact hh, r⟩
/-- The map of the noted places, while other blocks turn. -/
theorem Gr.at {w w' : World} {base b n : Nat} {No : Nat → Prop} {S : Int → List Int} (h : Gr w base b n No S) (hk : ∀ j, j < w.heap.size → (base ≤ j ∧ ¬ No j) ∨ j = b → w'.heap[j]? = w.heap[j]?) : Gr w' base b n No S := by
  obtain ⟨D, ⟨es, clock, hb, F, hs, rfl, hbb, hlen, hap⟩, hm, hS⟩ := h.own
  have hbl := h.size.1
  have hb' : w'.heap[b]? = some (.map es clock) := (hk b hbl (.inr rfl)).trans hb
  have hrows : ∀ x ∈ es.toList, ∀ g, x.val.ownBlock = some g → w'.heap[g]? = w.heap[g]? := by
    intro x hx g hg
    obtain ⟨y, hy⟩ := F.reads x hx
    obtain ⟨z, hz, _⟩ := WideElems.rd_val hy
    obtain ⟨zs, ho, _⟩ := rowElem_inv hz
    exact hk g (ho.1.lt g hg).2 (.inl ⟨(ho.1.lt g hg).1, h.shuns es clock hb x hx g hg⟩)
  have hst : ∀ x ∈ es.toList, ∀ z, rowElem (H := Unit) w base 3 .i64 x.val = some z → rowElem w' base 3 .i64 x.val = some z := fun x hx z hz => by
    obtain ⟨zs, ho, rfl⟩ := rowElem_inv hz
    exact rowElem_mk (ownsInts_at ho (hrows x hx))
  obtain ⟨F1, hmap, _⟩ := F.stay hst
  refine ⟨⟨_, ⟨es, clock, hb', F1, hs, by rw [hmap], hbb, fun x hx zs ho => ?_, hap⟩, hm, hS⟩, fun es2 clock2 h2 x hx => ?_⟩
  · obtain ⟨y, hy⟩ := F.reads x hx
    obtain ⟨z, hz, _⟩ := WideElems.rd_val hy
    obtain ⟨zs0, ho0, _⟩ := rowElem_inv hz
    rw [ho.unique (ownsInts_at ho0 (hrows x hx))]
    exact hlen x hx zs0 ho0
  · rw [hb'] at h2
    injection h2 with h2
    injection h2 with h3 h4
    subst h3
    exact h.shuns es clock hb x hx
/-- What greedy's variables hold: their boxes, the row that is laid, the noted places, the ranges' marks; X: what else is shunned. -/
structure GV (a : Option Addr) (n c : Nat) (p1 mb p4 p6 vat cnt : Nat) (S : Int → List Int) (out : List Int) (r : Value) (Ds : List Nat) (X : Nat → Prop) (w0 W : World) : Prop where
  below : Below w0.heap.size w0 W
  b1 : Boxed W p1 22 (.slice a n c)
  b4 : Boxed W p4 46 (.map (some mb))
  b6 : Boxed W p6 3 (.int .i64 vat)
  own : Owns .u8 5 W w0.heap.size r out
  rne : ∀ g, room r = some g → g ≠ p1 ∧ g ≠ p4 ∧ g ≠ p6 ∧ g ≠ mb
  gr : Gr W (p6 + 1) mb cnt (fun g => room r = some g ∨ g ∈ Ds ∨ X g) S
  marks : ∀ D ∈ Ds, p6 < D ∧ W.heap[D]? = some (.deferred (some []))
  nodup : Ds.Nodup
  ps : p1 = w0.heap.size ∧ mb = p1 + 1 + 1 ∧ p4 = p1 + 1 + 1 + 1 ∧ p6 = p1 + 1 + 1 + 1 + 1
structure GW (a : Option Addr) (n c : Nat) (b : List Int) (p1 mb p4 p6 at' frm cnt : Nat) (S : Int → List Int) (out : List Int) (r : Value) (Ds : List Nat) (w0 W : World) : Prop where
  v : GV a n c p1 mb p4 p6 at' cnt S out r Ds (fun _ => False) w0 W
  inv : GInv b at' frm out S
  cnt : cnt ≤ at'
theorem boxed_blw {W W' : World} {B : Nat} {t : TypeId} {v : Value} (h : Boxed W B t v) (hb : Below W.heap.size W W') : Boxed W' B t v := (hb.block B h.lt).trans h
theorem boxed_same {W W' : World} {B : Nat} {t : TypeId} {v : Value} (h : Boxed W B t v) (hb : W'.heap[B]? = W.heap[B]?) : Boxed W' B t v := hb.trans h
section
variable {a : Option Addr} {n c : Nat} {b : List Int} {p1 mb p4 p6 vat at' frm cnt : Nat} {S S' : Int → List Int} {out out' : List Int} {r r' : Value} {Ds : List Nat} {X X' : Nat → Prop} {w0 W W' : World}
theorem GV.keep (h : GV a n c p1 mb p4 p6 vat cnt S out r Ds X w0 W) (hb : Below W.heap.size W W') : GV a n c p1 mb p4 p6 vat cnt S out r Ds X w0 W' :=
  ⟨Below.call h.below hb, boxed_blw h.b1 hb, boxed_blw h.b4 hb, boxed_blw h.b6 hb, h.own.below hb, h.rne, h.gr.below hb, fun D hD => ⟨(h.marks D hD).1, (hb.block D (Array.getElem?_eq_some_iff.1 (h.marks D hD).2).1).trans (h.marks D hD).2⟩, h.nodup, h.ps⟩
theorem GW.keep (h : GW a n c b p1 mb p4 p6 at' frm cnt S out r Ds w0 W) (hb : Below W.heap.size W W') : GW a n c b p1 mb p4 p6 at' frm cnt S out r Ds w0 W' := ⟨h.v.keep hb, h.inv, h.cnt⟩
theorem GV.extra (h : GV a n c p1 mb p4 p6 vat cnt S out r Ds X w0 W) (hx : ∀ g, X' g → X g ∨ W.heap.size ≤ g) : GV a n c p1 mb p4 p6 vat cnt S out r Ds X' w0 W :=
  ⟨h.below, h.b1, h.b4, h.b6, h.own, h.rne, h.gr.reno (fun g hg => by
    rcases hg with hg | hg | hg
    · exact .inl (.inl hg)
    · exact .inl (.inr (.inl hg))
    · exact (hx g hg).imp (fun e => .inr (.inr e)) id), h.marks, h.nodup, h.ps⟩
theorem GV.mark (h : GV a n c p1 mb p4 p6 vat cnt S out r Ds X w0 W) (hb : Below W.heap.size W W') {D : Nat} (hD : W.heap.size ≤ D) (hK : W'.heap[D]? = some (.deferred (some []))) : GV a n c p1 mb p4 p6 vat cnt S out r (D :: Ds) X w0 W' := by
  have hg : Gr W (p6 + 1) mb cnt (fun g => room r = some g ∨ g ∈ D :: Ds ∨ X g) S := h.gr.reno (fun g hg => by
    rcases hg with hg | hg | hg
    · exact .inl (.inl hg)
    · rcases List.mem_cons.1 hg with e | e
      · exact .inr (by omega)
      · exact .inl (.inr (.inl e))
    · exact .inl (.inr (.inr hg)))
  have h2 := h.keep hb
  have hp6 := h.b6.lt
  refine ⟨h2.below, h2.b1, h2.b4, h2.b6, h2.own, h2.rne, hg.below hb, fun E hE => ?_, List.nodup_cons.2 ⟨fun hm => ?_, h.nodup⟩, h.ps⟩
  · rcases List.mem_cons.1 hE with e | e
    · rw [e]; exact ⟨by omega, hK⟩
    · exact h2.marks E e
  · have := (Array.getElem?_eq_some_iff.1 (h.marks D hm).2).1
    omega
theorem GV.newrow (h : GV a n c p1 mb p4 p6 vat cnt S out r Ds X w0 W) (hb : Below W.heap.size W W') (ho : Owns .u8 5 W' W.heap.size r' out') : GV a n c p1 mb p4 p6 vat cnt S out' r' Ds X w0 W' := by
  have hg : Gr W (p6 + 1) mb cnt (fun g => room r' = some g ∨ g ∈ Ds ∨ X g) S := h.gr.reno (fun g hg => by
    rcases hg with hg | hg | hg
    · exact .inr (ho.at_base g hg).1
    · exact .inl (.inr (.inl hg))
    · exact .inl (.inr (.inr hg)))
  have h2 := h.keep hb
  refine ⟨h2.below, h2.b1, h2.b4, h2.b6, ho.mono h.below.size, fun g hg => ?_, hg.below hb, h2.marks, h.nodup, h.ps⟩
  have h3 := (ho.at_base g hg).1
  have h4 := h.b1.lt
  have h5 := h.b4.lt
  have h6 := h.b6.lt
  have h7 := h.gr.size.1
  omega
theorem GV.no (h : GV a n c p1 mb p4 p6 vat cnt S out r Ds X w0 W) (hx : ∀ g, X g → g < W.heap.size) : ∀ g, (room r = some g ∨ g ∈ Ds ∨ X g) → g < W.heap.size := fun g hg => by
  rcases hg with hg | hg | hg
  · exact (h.own.at_base g hg).2
  · exact (Array.getElem?_eq_some_iff.1 (h.marks g hg).2).1
  · exact hx g hg
theorem GV.note {cnt' : Nat} (h : GV a n c p1 mb p4 p6 vat cnt S out r Ds X w0 W) (hs : Sp (p6 + 1) mb (fun g => room r = some g ∨ g ∈ Ds ∨ X g) W W') (hg : Gr W' (p6 + 1) mb cnt' (fun g => room r = some g ∨ g ∈ Ds ∨ X g) S') : GV a n c p1 mb p4 p6 vat cnt' S' out r Ds X w0 W' := by
  obtain ⟨e1, e2, e3, e4⟩ := h.ps
  have hw := h.below.size
  refine ⟨h.below.trans ⟨hs.os, hs.tape, hs.output, hs.size, fun j hj => hs.block j (by omega) (.inl (by omega)) (by omega)⟩, boxed_same h.b1 (hs.block _ h.b1.lt (.inl (by omega)) (by omega)), boxed_same h.b4 (hs.block _ h.b4.lt (.inl (by omega)) (by omega)), boxed_same h.b6 (hs.block _ h.b6.lt (.inl (by omega)) (by omega)), h.own.at (fun g hgr => hs.block g (h.own.at_base g hgr).2 (.inr (.inl hgr)) (h.rne g hgr).2.2.2), h.rne, hg, fun D hD => ⟨(h.marks D hD).1, (hs.block D (Array.getElem?_eq_some_iff.1 (h.marks D hD).2).1 (.inr (.inr (.inl hD))) (by have := (h.marks D hD).1; omega)).trans (h.marks D hD).2⟩, h.nodup, h.ps⟩
theorem GV.setAt (h : GV a n c p1 mb p4 p6 vat cnt S out r Ds X w0 W) (v : Nat) : GV a n c p1 mb p4 p6 v cnt S out r Ds X w0 (W.setCell ⟨p6, 0, none⟩ (.int .i64 v)) := by
  obtain ⟨e1, e2, e3, e4⟩ := h.ps
  refine ⟨h.below.setCell (p := ⟨p6, 0, none⟩) (by show _ ≤ p6; omega) _, h.b1.other (by omega) _, h.b4.other (by omega) _, h.b6.set _, h.own.grown (store_grown _ _ _) (fun g hg e => (h.rne g hg).2.2.1 (by injection e)), h.rne, h.gr.kept (store_grown _ _ _) (fun j e => .inl (by injection e with e; omega)) (fun e => by injection e with e; omega), fun D hD => ⟨(h.marks D hD).1, ?_⟩, h.nodup, h.ps⟩
  have := (h.marks D hD)
  rw [heap_setCell_other W ⟨p6, 0, none⟩ D _ (show D ≠ p6 by omega)]
  exact this.2
end
theorem gw_start (a : Option Addr) (n c : Nat) (b : List Int) (w : World) :
    GW a n c b w.heap.size (w.heap.size + 1 + 1) (w.heap.size + 1 + 1 + 1) (w.heap.size + 1 + 1 + 1 + 1) 0 0 0 (fun _ => []) [1] (.slice (some ⟨w.heap.size + 1, 0, none⟩) 1 1) [] w
      (((((w.alloc (.cells #[.slice a n c] 22)).alloc (.cells #[.int .u8 1] 5)).alloc (.map #[] 0)).alloc (.cells #[.map (some (w.heap.size + 1 + 1))] 46)).alloc (.cells #[.int .i64 0] 3)) := by
  have g1 := (Boxed.new w 22 (.slice a n c)).alloc (.cells #[.int .u8 1] 5) |>.alloc (.map #[] 0) |>.alloc (.cells #[.map (some (w.heap.size + 1 + 1))] 46) |>.alloc (.cells #[.int .i64 0] 3)
  have g2 := one_owns (w.alloc (.cells #[.slice a n c] 22)) 1
  have g3 : (((w.alloc (.cells #[.slice a n c] 22)).alloc (.cells #[.int .u8 1] 5)).alloc (.map #[] 0)).heap[w.heap.size + 1 + 1]? = some (.map #[] 0) := by
    have := heap_alloc_new ((w.alloc (.cells #[.slice a n c] 22)).alloc (.cells #[.int .u8 1] 5)) (.map #[] 0)
    simpa using this
  have g4 := Boxed.new (((w.alloc (.cells #[.slice a n c] 22)).alloc (.cells #[.int .u8 1] 5)).alloc (.map #[] 0)) 46 (.map (some (w.heap.size + 1 + 1)))
  have g6 := Boxed.new ((((w.alloc (.cells #[.slice a n c] 22)).alloc (.cells #[.int .u8 1] 5)).alloc (.map #[] 0)).alloc (.cells #[.map (some (w.heap.size + 1 + 1))] 46)) 3 (.int .i64 0)
  have g5 := g4.alloc (.cells #[.int .i64 0] 3)
  have b0 : Below w.heap.size w (((((w.alloc (.cells #[.slice a n c] 22)).alloc (.cells #[.int .u8 1] 5)).alloc (.map #[] 0)).alloc (.cells #[.map (some (w.heap.size + 1 + 1))] 46)).alloc (.cells #[.int .i64 0] 3)) :=
    ((((((Below.refl w.heap.size w).alloc (Nat.le_refl _) _).alloc (by simp) _).alloc (by simp; omega) _).alloc (by simp; omega) _).alloc (by simp; omega) _)
  have g7 : (((((w.alloc (.cells #[.slice a n c] 22)).alloc (.cells #[.int .u8 1] 5)).alloc (.map #[] 0)).alloc (.cells #[.map (some (w.heap.size + 1 + 1))] 46)).alloc (.cells #[.int .i64 0] 3)).heap[w.heap.size + 1 + 1]? = some (.map #[] 0) := by
    rw [Below.heap_alloc _ _ _ (by simp), Below.heap_alloc _ _ _ (by simp)]
    exact g3
  simp only [World.size_alloc] at g2 g4 g5 g6
  refine ⟨⟨b0, g1, g5, g6, (((g2.alloc _).alloc _).alloc _).mono (Nat.le_succ _), fun g hg => ?_, Gr.made _ _ _ g7 (by omega) _, fun D hD => (by cases hD), List.nodup_nil, rfl, rfl, rfl, rfl⟩, GInv.start b, Nat.le_refl _⟩
  unfold room at hg
  simp at hg
  subst hg
  refine ⟨by omega, by omega, by omega, by omega⟩
/-- From W to W' nothing but marks has turned. -/
structure Shut (Ds : List Nat) (W W' : World) : Prop where
  os : W'.os = W.os
  tape : W'.tape = W.tape
  output : W'.output = W.output
  size : W'.heap.size = W.heap.size
  block : ∀ j, j ∉ Ds → W'.heap[j]? = W.heap[j]?
theorem leaves_marks {F : Fence} {n : Nat} {P : Program} {fn : Func} {tmps : Array Value} {R : Ending → World → Prop} : ∀ (Ds : List Nat) (W : World), Ds.Nodup → (∀ D ∈ Ds, W.heap[D]? = some (.deferred (some []))) →
    (∀ W', Shut Ds W W' → LeavesInM F n P fn tmps R [] .returning W') → LeavesInM F n P fn tmps R (Ds.map MkD) .returning W
  | [], W, _, _, h => h W ⟨rfl, rfl, rfl, rfl, fun _ _ => rfl⟩
  | D :: Ds, W, hn, hm, h => by
    obtain ⟨hn1, hn2⟩ := List.nodup_cons.1 hn
    have hD := hm D (by simp)
    refine ⟨by simp, .inl ⟨D, _, rfl, run_takeDeferred hD, ?_⟩⟩
    refine leaves_marks Ds _ hn2 (fun E hE => ?_) (fun W' s => h W' ⟨s.os, s.tape, s.output, s.size.trans (by simp), fun j hj => ?_⟩)
    · rw [World.putObj_heap_other (fun e => hn1 (by rw [← e]; exact hE))]
      exact hm E (by simp [hE])
    · simp at hj
      rw [s.block j hj.2, World.putObj_heap_other hj.1]
theorem Owns.cells {k : IntKind} {e : TypeId} {w : World} {base : Nat} {v : Value} {l : List Int} (h : Owns k e w base v l) {g : Nat} (hg : room v = some g) : ∃ cur, w.heap[g]? = some (.cells cur e (0, 0)) := by
  rcases h.2 with ⟨_, a, hv, _⟩ | h2
  · rw [hv, room_empty] at hg; cases hg
  · rcases h2.2 with ⟨hv, hn⟩ | ⟨g', cap, cur, hv, hb, hh, r⟩
    · rw [hv] at hg
      cases hg
    · have h5 := room_some hg
      rw [hv] at h5
      simp [Value.ownBlock] at h5
      subst h5
      exact ⟨cur, hh⟩
theorem Owns.shut {k : IntKind} {e : TypeId} {w w' : World} {base : Nat} {v : Value} {l : List Int} {Ds : List Nat} (h : Owns k e w base v l) (s : Shut Ds w w') (hm : ∀ D ∈ Ds, w.heap[D]? = some (.deferred (some []))) : Owns k e w' base v l :=
  h.at (fun g hg => s.block g (fun hD => by
    obtain ⟨cur, hc⟩ := h.cells hg
    rw [hm g hD] at hc
    cases hc))
theorem Shut.below {Ds : List Nat} {w w' : World} {B : Nat} (s : Shut Ds w w') (h : ∀ D ∈ Ds, B ≤ D) : Below B w w' :=
  ⟨s.os, s.tape, s.output, Nat.le_of_eq s.size.symm, fun j hj => s.block j (fun hD => by have := h j hD; omega)⟩
/-- The address of what lies k behind. -/
def subAt (c k : Nat) (a : Option Addr) : Option Addr := if c = k then a else a.map (fun x => x.add k)
theorem rd_sub {kd : IntKind} {w : World} {a : Option Addr} {n c : Nat} {l : List Int} (h : RdAt kd w a n c l) (k : Nat) (hk : k ≤ n) : RdAt kd w (subAt c k a) (n - k) (c - k) (l.drop k) := by
  have hl := h.len
  have hc := h.cap
  refine ⟨by rw [List.length_drop]; omega, by omega, Nat.le_trans (Nat.sub_le _ _) h.max, fun i hi => ?_, fun x hx => h.wf x (List.mem_of_mem_drop hx), fun e => ?_⟩
  · obtain ⟨b, o, e, hcell⟩ := h.cell (k + i) (by omega)
    refine ⟨b, o + k, ?_, ?_⟩
    · unfold subAt
      rw [if_neg (by omega), e, Option.map_some, Addr.add_lit]
    · rw [Nat.add_assoc, hcell]
      unfold nth
      simp only [List.getD, List.getElem?_drop]
  · unfold subAt at e
    split at e
    · omega
    · cases a with
      | none => have := h.void rfl; omega
      | some x => cases e
theorem rd_part {kd : IntKind} {w : World} {a : Option Addr} {n c : Nat} {l : List Int} (h : RdAt kd w a n c l) (lo hi : Nat) (h1 : lo ≤ hi) (h2 : hi ≤ n) : RdAt kd w (subAt hi lo a) (hi - lo) (hi - lo) ((l.drop lo).take (hi - lo)) := by
  have hl := h.len
  have hc := h.cap
  have hm := h.max
  refine ⟨by rw [List.length_take, List.length_drop]; omega, Nat.le_refl _, by omega, fun i hi' => ?_, fun x hx => h.wf x (List.mem_of_mem_drop (List.mem_of_mem_take hx)), fun e => ?_⟩
  · obtain ⟨b, o, e, hcell⟩ := h.cell (lo + i) (by omega)
    refine ⟨b, o + lo, ?_, ?_⟩
    · unfold subAt
      rw [if_neg (by omega), e, Option.map_some, Addr.add_lit]
    · rw [Nat.add_assoc, hcell]
      unfold nth
      simp only [List.getD, List.getElem?_take, List.getElem?_drop, if_pos hi']
  · unfold subAt at e
    split at e
    · omega
    · cases a with
      | none => have := h.void rfl; omega
      | some x => cases e
set_option maxRecDepth 100000 in
/-- A list's row lies in what was there. -/
theorem Gr.rowLow {W0 w : World} {base b n : Nat} {No : Nat → Prop} {S : Int → List Int} (h : Gr W0 base b n No S) (hb : Below W0.heap.size W0 w) (q : Int) (hq : (Lit.int .u32 q).wf = true) {av : Option Addr} {m cv : Nat}
    (hrun : (Instr.lookup 46 (.map (some b)) (.int .u32 q) false).run Try.prog w = .ok (.slice av m cv) w) : ∀ x, av = some x → 0 < m → x.block < W0.heap.size := by
  intro x hx hm
  obtain ⟨D, ⟨es, clock, hes, F, hs, rfl, hbb, hlen, hap⟩, _, _⟩ := h.own
  have hes' : w.heap[b]? = some (.map es clock) := (hb.block b h.size.1).trans hes
  have hg := (h.below hb).own
  obtain ⟨D2, ⟨es2, clock2, hes2, F2, _⟩, _, _⟩ := hg
  obtain ⟨rfl, rfl⟩ : es = es2 ∧ clock = clock2 := by rw [hes'] at hes2; simpa using hes2
  rcases Maps.fit_look false u32K Try.underlying46 (zeroRow w) hes' F2 (u32_key hq) with ⟨hrun', _, _⟩ | ⟨e0, y, hm0, _, hrun', _, _, _⟩
  · rw [hrun] at hrun'
    simp at hrun'
    omega
  · rw [hrun] at hrun'
    have he : e0.val = .slice av m cv := by simpa using hrun'.symm
    obtain ⟨y, hy⟩ := F.reads e0 hm0
    obtain ⟨z, hz, _⟩ := WideElems.rd_val hy
    obtain ⟨zs, ho, _⟩ := rowElem_inv hz
    exact (ho.1.lt x.block (by rw [he, hx]; rfl)).2
/-- What the look for a copy holds, behind some of the places. -/
structure FI (b : List Int) (at' : Nat) (L : List Int) (t8 t10 sz : Nat) (vl : Value) (wr : World) (pre : List Nat) (W : World) : Prop where
  found : ∃ (best : Nat) (place : Int), Boxed W t8 3 (.int .i64 best) ∧ Boxed W (t8 + 1) 3 (.int .i64 place) ∧ FoundP b at' L pre best place
  b10 : Boxed W t10 49 vl
  below : Below wr.heap.size wr W
  size : sz ≤ W.heap.size
theorem boxed_turn {W W' : World} {row : Option Nat} {B : Nat} {t : TypeId} {v : Value} (h : Boxed W B t v) (hg : W.grownBy W' row) (hr : ∀ r, row = some r → ∃ o : Obj, W.heap[r]? = some o ∧ o.isCells = false) : Boxed W' B t v :=
  h.kept hg (fun e => by
    obtain ⟨o, ho, hc⟩ := hr B e.symm
    rw [show W.heap[B]? = _ from h] at ho
    injection ho with ho
    rw [← ho] at hc
    cases hc)
theorem FI.own {b : List Int} {at' : Nat} {L : List Int} {t8 t10 sz : Nat} {vl : Value} {wr : World} {B : Nat} (hB : wr.heap.size ≤ B) : OwnFrom B (fun (pre : List (Ixs L)) W => FI b at' L t8 t10 sz vl wr (pre.map (·.1)) W) := fun s W W' row hs hg hr => by
  have hr' : ∀ r, row = some r → ∃ o : Obj, W.heap[r]? = some o ∧ o.isCells = false := fun r e => (hr r e).2
  obtain ⟨⟨best, place, h1, h2, h3⟩, h4, h5, h6⟩ := hs
  exact ⟨⟨best, place, boxed_turn h1 hg hr', boxed_turn h2 hg hr', h3⟩, boxed_turn h4 hg hr', ownFrom_below (β := Unit) (Nat.le_refl _) hB () W W' row h5 hg hr, Nat.le_trans h6 hg.size⟩
theorem found_done {b : List Int} {at' : Nat} {L : List Int} {best : Nat} {place : Int} {ys : List (Ixs L)} (hy : ys.map (·.1) = backL L.length) (h : FoundP b at' L (ys.map (·.1)) best place) : FoundL b at' L best place := by
  rw [hy] at h
  exact h.done
theorem found_stop {b : List Int} {at' : Nat} {L : List Int} {best : Nat} {place : Int} {p : List (Ixs L)} {x : Ixs L} (hy : (p ++ [x]).map (·.1) <+: backL L.length) (hx : 24 < (L.length : Int) - x.1) (h : FoundP b at' L (p.map (·.1)) best place) : FoundL b at' L best place := by
  rw [List.map_append] at hy
  exact h.stop hy hx
theorem keeps_blw {W W' : World} (h : Below W.heap.size W W') : KeepsOthers W W' := ⟨h.size, fun k o hk _ => by rw [h.block k (Array.getElem?_eq_some_iff.1 hk).1]; exact hk⟩
theorem kpz_blw {Z : Nat → Prop} {W W' : World} (h : Below W.heap.size W W') (hz : ∀ j, Z j → j < W.heap.size) : KpZ Z W W' := ⟨h.size, fun j hj => h.block j (hz j hj)⟩
theorem kpz_set {Z : Nat → Prop} {W : World} {B : Nat} (hz : ¬ Z B) (v : Value) : KpZ Z W (W.setCell ⟨B, 0, none⟩ v) := ⟨by simp, fun j hj => heap_setCell_other W ⟨B, 0, none⟩ j v (fun e => hz (by rw [← show j = B from e]; exact hj))⟩
theorem kpz_put {Z : Nat → Prop} {B : Nat} (hz : ∀ j, Z j → j < B) (W : World) (l : Nat) (o o' : Obj) (hl : B ≤ l) (_ : W.heap[l]? = some o) (_ : o.isCells = false) (_ : o.isWalk = false) : KpZ Z W (W.putObj l o') := ⟨by simp, fun j hj => World.putObj_heap_other (fun e => by have := hz j hj; omega)⟩
end Go.Proofs.Ytfoabnoolmeoiaa
