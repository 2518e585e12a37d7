/- disk: what writes a disk's own blocks: settle, Cut, Flush. -/
import Derived.Test.YtpgncmoagmkcmaaDkLaw
import Derived.RegionTactic
namespace Go.Proofs.Ytpgncmoagmkcmaa
open Go.RowKit
theorem cellsD {w : World} {b T : Nat} {x0 x1 x2 x3 x4 x5 x6 x7 x8 : Value} (h : w.heap[b]? = some (.cells #[x0, x1, x2, x3, x4, x5, x6, x7, x8] T (0, 0))) : w.cell? ⟨b, 0, none⟩ = some x0 ∧ w.cell? ⟨b, 1, none⟩ = some x1 ∧ w.cell? ⟨b, 2, none⟩ = some x2 ∧ w.cell? ⟨b, 3, none⟩ = some x3 ∧ w.cell? ⟨b, 4, none⟩ = some x4 ∧ w.cell? ⟨b, 5, none⟩ = some x5 ∧ w.cell? ⟨b, 6, none⟩ = some x6 ∧ w.cell? ⟨b, 7, none⟩ = some x7 ∧ w.cell? ⟨b, 8, none⟩ = some x8 ∧ ∀ i, w.frozen? ⟨b, i, none⟩ = false := by
  refine ⟨?_, ?_, ?_, ?_, ?_, ?_, ?_, ?_, ?_, fun i => frozen_of_row w b i _ _ h⟩ <;> simp [World.cell?, h]
theorem owns_shape {w : World} {e : TypeId} {size n : Nat} {v : Value} {xs : List Value} (h : w.ownsRow 0 e size v n xs) : ∃ a c, v = .slice a n c := by
  rcases h.2 with ⟨h1, h2⟩ | ⟨g, cap, cur, hv, _⟩
  · exact ⟨none, 0, by rw [h1, h2]⟩
  · exact ⟨_, _, hv⟩
theorem grown_at {w w' : World} {h k : Nat} {o : Obj} (ho : w.heap[k]? = some o) (hg : w.grownBy w' (some h)) (hk : k ≠ h) : w'.heap[k]? = some o := by
  rw [hg.block k (Array.getElem?_eq_some_iff.1 ho).1 (fun e => hk (Option.some.inj e))]; exact ho
theorem grown_put {w wr w2 : World} {kb : Nat} (h : w.grownBy wr (some kb)) (hb : Below wr.heap.size wr w2) (kb' sn : Nat) (v : Value) (hk : kb' = kb := by rfl) : w.grownBy (w2.setCell ⟨kb', sn, none⟩ v).drew (some kb) := by
  subst hk
  refine ⟨hb.os.trans h.os, hb.tape.trans h.tape, hb.output.trans h.output, Nat.le_trans h.size (by have := hb.size; simpa [World.drew] using this), fun x hx hne => ?_⟩
  show (w2.setCell ⟨kb', sn, none⟩ v).heap[x]? = _
  rw [heap_setCell_other w2 ⟨kb', sn, none⟩ x _ (fun e => hne (by rw [show x = kb' from e])), hb.block x (Nat.lt_of_lt_of_le hx h.size)]
  exact h.block x hx hne
theorem pendC_at : ∀ {p : List (Int × List Int)} {vs : List Value} {k : Nat} {v : Value} {x : Int × List Int}, vs[k]? = some v → p[k]? = some x → (pendC p vs)[2 * k]? = some (.int .i64 x.1) ∧ (pendC p vs)[2 * k + 1]? = some v
  | [], _, k, v, x, _, h => by simp at h
  | _ :: _, [], k, v, x, h, _ => by simp at h
  | p :: r, u :: t, 0, v, x, h1, h2 => by
    simp at h1 h2
    subst h1 h2
    exact ⟨rfl, rfl⟩
  | p :: r, u :: t, k + 1, v, x, h1, h2 => by
    have := pendC_at (p := r) (vs := t) (k := k) (by simpa using h1) (by simpa using h2)
    rw [show 2 * (k + 1) = 2 * k + 1 + 1 by omega]
    exact this
theorem pend_cells {w : World} {pv : Value} {p : List (Int × List Int)} {vs : List Value} {k : Nat} {v : Value} {x : Int × List Int} (h : w.ownsRow 0 76 2 pv p.length (pendC p vs)) (hv : vs[k]? = some v) (hx : p[k]? = some x) (hk : k < p.length) :
    ∃ g, (∃ c, pv = .slice (some ⟨g, 0, none⟩) p.length c) ∧ w.cell? ⟨g, 2 * k, none⟩ = some (.int .i64 x.1) ∧ w.cell? ⟨g, 2 * k + 1, none⟩ = some v := by
  obtain ⟨h1, h2⟩ := pendC_at hv hx
  rcases h.2 with ⟨h3, h4⟩ | ⟨g, cap, cur, hpv, h0, hh, h5⟩
  · omega
  · subst hpv
    exact ⟨g, ⟨cap, rfl⟩, by rw [h.cellAt (2 * k) (by omega)]; exact h1, by rw [h.cellAt (2 * k + 1) (by omega)]; exact h2⟩
theorem flush1_any (k : Int) (w : World) : Calls Try.prog 41 #[.int .i64 k] w fun e w' => e = .returned (.bool true) ∧ w = w' := by
  go_enter Try.func41, Try.ntmps41
  go_wp2
  go_ret
  exact ⟨rfl, rfl⟩
set_option linter.unusedSimpArgs false in
set_option linter.unusedVariables false in
set_option maxRecDepth 100000 in
set_option maxHeartbeats 2000000 in
theorem settle_all (Z : Nat → Prop) (d kb mb : Nat) (pv kv : Value) (vals pvs : List Value) (st : Dk) (w : World) (p : DkP w Z d kb mb pv kv vals pvs st) (hz : ∀ k, Z k → k < w.heap.size) :
    Calls Try.prog 37 #[.pointer (some ⟨d, 0, none⟩), (.func (.func 41) #[] #[])] w fun e w' => e = .returned (.tuple #[]) ∧ DkIn w' Z d { st with kept := settleK (fun _ => true) 0 st.pend st.kept, pend := [] } ∧ Tnd Z Z w w' := by
  obtain ⟨c0, c1, c2, c3, c4, c5, c6, c7, c8, cf⟩ := cellsD p.row
  have P := Lib.hid p
  have hpl : ∃ a c, pv = .slice a st.pend.length c := owns_shape p.prow
  obtain ⟨pa, pc, hpv⟩ := hpl
  have hfew := p.ok.few
  have hne := p.ne
  have hrm := p.rm
  have hZm := p.z
  obtain ⟨n, hn⟩ : ∃ n, st.pend.length = n := ⟨_, rfl⟩
  have HN := Lib.hid hn
  rw [hn] at hpv hfew
  have HPV := Lib.hid hpv
  rw [hpv] at c5
  clear p hpv hn
  go_enter Try.func37, Try.ntmps37
  go_wp2_with fail
  go_loopw [11] (fun i wr => ∃ (k : Nat) (vals' : List Value) (kept' : List (List Int)), k ≤ n ∧ i = .int .i64 k ∧ wr.heap[kb]? = some (.cells vals'.toArray 22 (0, 0)) ∧ All2 (SecV wr (MutD d kb mb pv) Z st.size) vals' kept' ∧ Hid (settleK (fun _ => true) k (st.pend.drop k) kept' = settleK (fun _ => true) 0 st.pend st.kept) ∧ w.grownBy wr (some kb) ∧ kept'.length = st.kept.length ∧ (∀ l ∈ kept', l.length = st.size)) (fun i _ => n - (intOf i).toNat)
  case atStart => exact ⟨0, vals, st.kept, by omega, rfl, P.out.krow, P.out.kvals, rfl, World.grownBy.refl _ _, rfl, P.out.ok.kept⟩
  case round =>
    clear c0 c1 c2 c3 c4 c5 c6 c7 c8 cf
    obtain ⟨k, vals', kept', hk, rfl, hkr, hkv, HS, hg, hkl, hks⟩ := hrel
    have hrow := grown_at P.out.row hg hne.1
    obtain ⟨c0, c1, c2, c3, c4, c5, c6, c7, c8, cf⟩ := cellsD hrow
    have HKR := Lib.hid hkr
    have HKV := Lib.hid hkv
    have HG := Lib.hid hg
    have HKL := Lib.hid hkl
    have HKS := Lib.hid hks
    have hkf : ∀ i, wr.frozen? ⟨kb, i, none⟩ = false := fun i => frozen_of_row wr _ i _ _ hkr
    clear hkr hkv hg hkl hks hrow
    by_cases hp : k < n
    · obtain ⟨⟨s, b⟩, hpk⟩ : ∃ x, st.pend[k]? = some x := ⟨_, List.getElem?_eq_getElem (by rw [HN.out]; exact hp)⟩
      obtain ⟨v, hvk, hv⟩ := P.out.pvals.get hpk
      obtain ⟨g, ga, hgc1, hgc2⟩ := pend_cells P.out.prow hvk hpk (by rw [HN.out]; exact hp)
      obtain ⟨b9, o9, n9, c9, rfl, hr9, hn9, hm9, hz9⟩ := hv
      have hpok := P.out.ok.pend _ (List.mem_of_getElem? hpk)
      obtain ⟨hp1, hp2, hp3⟩ := hpok
      obtain ⟨sn, rfl⟩ := Int.eq_ofNat_of_zero_le (show 0 ≤ s from hp2)
      have hdr : st.pend.drop k = ((sn : Int), b) :: st.pend.drop (k + 1) := by
        rw [List.drop_eq_getElem_cons (by rw [HN.out]; exact hp)]
        congr 1
        have := List.getElem?_eq_getElem (l := st.pend) (i := k) (by rw [HN.out]; exact hp)
        rw [this] at hpk
        injection hpk
      obtain ⟨cg, hpv'⟩ := ga
      rw [HN.out, HPV.out] at hpv'
      injection hpv' with q1 q2 q3
      subst q1 q3
      have hgd := hrm g (by rw [HPV.out]; rfl)
      have hgw : wr.cell? ⟨g, k * 2, none⟩ = some (.int .i64 (sn : Int)) := by
        rw [show k * 2 = 2 * k by omega]
        exact HG.out.cell hgc1 (fun e => hgd.2.1 (Option.some.inj e))
      have hgw2 : wr.cell? ⟨g, k * 2 + 1, none⟩ = some (.slice (some ⟨b9, o9, none⟩) n9 c9) := by
        rw [show k * 2 + 1 = 2 * k + 1 by omega]
        exact HG.out.cell hgc2 (fun e => hgd.2.1 (Option.some.inj e))
      have HDR := Lib.hid hdr
      have HPK := Lib.hid hpk
      have HP1 := Lib.hid hp1
      have HR9 := Lib.hid (RdAt.at (w' := wr) hr9 (HG.out.block b9 (hz b9 hz9) (fun e => hm9 (.inr (.inl (Option.some.inj e))))))
      have hsnl : sn < st.kept.length := by omega
      have hsn2 : sn < kept'.length := by rw [HKL.out]; exact hsnl
      have hkb1 : kb < wr.heap.size := (Array.getElem?_eq_some_iff.1 HKR.out).1
      have hd1 : d < wr.heap.size := Nat.lt_of_lt_of_le (hz d (hZm d (.inl rfl))) HG.out.size
      have hkvlen := HKV.out.1
      have HVL := Lib.hid hkvlen
      clear hgc1 hgc2 hdr hpk hp1 hvk hr9 hkvlen hp2
      go_wp2_with fail
      obtain ⟨w2, hw2⟩ : ∃ w2, wr.alloc (.cells #[.int .i64 (sn : Int), .slice (some ⟨b9, o9, none⟩) n9 c9] 76) = w2 := ⟨_, rfl⟩
      have hb2 : Below wr.heap.size wr w2 := by rw [← hw2]; exact (Below.refl _ _).alloc (Nat.le_refl _) _
      have ht5 : w2.heap[wr.heap.size]? = some (.cells #[.int .i64 (sn : Int), .slice (some ⟨b9, o9, none⟩) n9 c9] 76 (0, 0)) := by rw [← hw2]; exact heap_alloc_new _ _
      rw [hw2]
      clear hw2
      have t50 : w2.cell? ⟨wr.heap.size, 0, none⟩ = some (.int .i64 (sn : Int)) := by rw [cell_of_row w2 _ _ _ _ _ ht5]; rfl
      have t51 : w2.cell? ⟨wr.heap.size, 1, none⟩ = some (.slice (some ⟨b9, o9, none⟩) n9 c9) := by rw [cell_of_row w2 _ _ _ _ _ ht5]; rfl
      have hrow2 := row_keep (grown_at P.out.row HG.out hne.1) hb2
      have hkr2 := row_keep HKR.out hb2
      obtain ⟨y0, y1, y2, y3, y4, y5, y6, y7, y8, yf⟩ := cellsD hrow2
      have hkf2 : ∀ i, w2.frozen? ⟨kb, i, none⟩ = false := fun i => frozen_of_row w2 _ i _ _ hkr2
      have hkc2 : w2.cell? ⟨kb, sn, none⟩ = some (vals'[sn]'(by rw [HVL.out]; exact hsn2)) := by
        rw [cell_of_row w2 _ _ _ _ _ hkr2]
        simp [show sn < vals'.length by rw [HVL.out]; exact hsn2]
      have HKR2 := Lib.hid hkr2
      have HB2 := Lib.hid hb2
      have htn : wr.heap.size ≠ kb := by omega
      obtain ⟨tb, htb⟩ : ∃ tb, wr.heap.size = tb := ⟨_, rfl⟩
      rw [htb] at t50 t51 htn
      rw [htb]
      clear c0 c1 c2 c3 c4 c5 c6 c7 c8 cf hkf ht5 hrow2 hkr2 hb2 hgw hgw2 htb
      refine (flush1_any k _).mono ?_
      rintro e w3 ⟨rfl, rfl⟩
      go_wp2_with fail
      go_region
      go_wp2_with fail
      have HNX : Hid (settleK (fun _ => true) (k + 1) (st.pend.drop (k + 1)) (kept'.set sn b) = settleK (fun _ => true) 0 st.pend st.kept) := by
        show _ = _
        rw [← HS.out, HDR.out, settleK]
        rfl
      have hoth : ∀ x, Z x → ¬ MutD d kb mb pv x → (w2.setCell ⟨kb, sn, none⟩ (.slice (some ⟨b9, o9, none⟩) n9 c9)).drew.heap[x]? = wr.heap[x]? := by
        intro x hx hm
        show (w2.setCell ⟨kb, sn, none⟩ _).heap[x]? = _
        rw [heap_setCell_other w2 ⟨kb, sn, none⟩ x _ (fun e => hm (.inr (.inl e))), HB2.out.block x (Nat.lt_of_lt_of_le (hz x hx) HG.out.size)]
      have hk3 : (w2.setCell ⟨kb, sn, none⟩ (.slice (some ⟨b9, o9, none⟩) n9 c9)).drew.heap[kb]? = some (.cells (vals'.set sn (.slice (some ⟨b9, o9, none⟩) n9 c9)).toArray 22 (0, 0)) := by
        show (w2.setCell ⟨kb, sn, none⟩ _).heap[kb]? = _
        rw [heap_setCell_same w2 kb sn _ _ _ HKR2.out]
        simp
      have hv3 : All2 (SecV (w2.setCell ⟨kb, sn, none⟩ (.slice (some ⟨b9, o9, none⟩) n9 c9)).drew (MutD d kb mb pv) Z st.size) (vals'.set sn (.slice (some ⟨b9, o9, none⟩) n9 c9)) (kept'.set sn b) :=
        (HKV.out.imp fun v l h => h.at hoth (fun _ _ h => h) (fun _ h => h)).set sn (.inr ⟨b9, o9, n9, c9, rfl, HR9.out.at (hoth b9 hz9 hm9), hn9, hm9, hz9⟩)
      have hg3 : w.grownBy (w2.setCell ⟨kb, sn, none⟩ (.slice (some ⟨b9, o9, none⟩) n9 c9)).drew (some kb) := grown_put HG.out HB2.out kb sn _
      have hl3 : ∀ l ∈ kept'.set sn b, l.length = st.size := fun l hl => by
        rcases List.mem_or_eq_of_mem_set hl with h | h
        · exact HKS.out l h
        · rw [h]; exact HP1.out
      have HK3 := Lib.hid hk3
      have HV3 := Lib.hid hv3
      have HG3 := Lib.hid hg3
      have HL3 := Lib.hid hl3
      clear hk3 hv3 hg3 hl3 hoth
      go_roundw
      case rel => exact ⟨k + 1, vals'.set sn (.slice (some ⟨b9, o9, none⟩) n9 c9), kept'.set sn b, by omega, by go_num, HK3.out, HV3.out, HNX, HG3.out, by rw [List.length_set]; exact HKL.out, HL3.out⟩
      case measure => simp [intOf] <;> omega

    · obtain rfl : k = n := by omega
      have hK : settleK (fun _ => true) 0 st.pend st.kept = kept' := by
        rw [← HS.out, List.drop_of_length_le (by rw [HN.out]; exact Nat.le_refl _)]
        rfl
      have HK := Lib.hid hK
      have hdlt : d < wr.heap.size := Nat.lt_of_lt_of_le (hz d (hZm d (.inl rfl))) HG.out.size
      have hm1 : MapAt (wr.setCell ⟨d, 5, none⟩ (.slice none 0 0)) mb (lastOf st.pend) := P.out.map.at (by
        rw [heap_setCell_other wr ⟨d, 5, none⟩ mb _ (fun e => hne.2.1 e.symm)]
        exact HG.out.block mb (hz mb (hZm mb (.inr (.inr (.inl rfl))))) (fun e => hne.2.2 (Option.some.inj e).symm))
      obtain ⟨vc, w5, hrun, hmap5, hg5⟩ := map_clear hm1 0
      have HM5 := Lib.hid hmap5
      have HG5 := Lib.hid hg5
      have hrow := grown_at P.out.row HG.out hne.1
      have HROW := Lib.hid hrow
      clear hK hm1 hmap5 hg5 hrow
      go_wp2_with fail
      go_end0
      rw [HK.out]
      have hoth : ∀ x, Z x → ¬ MutD d kb mb pv x → w5.heap[x]? = wr.heap[x]? := fun x hx hm => by
        rw [HG5.out.block x (by simp; exact Nat.lt_of_lt_of_le (hz x hx) HG.out.size) (fun e => hm (.inr (.inr (.inl (Option.some.inj e))))), heap_setCell_other wr ⟨d, 5, none⟩ x _ (fun e => hm (.inl e))]
      have hM : ∀ x, Z x → ¬ MutD d kb mb pv x → ¬ MutD d kb mb (.slice none 0 0) x := fun x _ hm h => by
        rcases h with h | h | h | h
        · exact hm (.inl h)
        · exact hm (.inr (.inl h))
        · exact hm (.inr (.inr (.inl h)))
        · cases h
      refine ⟨rfl, ⟨fun x hx => ?_, kb, mb, .slice none 0 0, kv, vals', [], ?_⟩, ⟨HG5.out.os.trans HG.out.os, HG5.out.tape.trans HG.out.tape, HG5.out.output.trans HG.out.output, ?_, fun x hx hzx => ?_, fun x h => .inl h⟩⟩
      · have := HG5.out.size
        simp at this
        exact Nat.lt_of_lt_of_le (hz x hx) (Nat.le_trans HG.out.size this)
      · refine ⟨?_, ?_, HKV.out.imp fun v l h => h.at hoth hM (fun _ h => h), World.ownsRow_nil _ _ _ _, All2.nil _, HM5.out.congr (fun _ => rfl), ?_, hne, (fun g hg => by cases hg), ?_, ?_⟩
        · rw [HG5.out.block d (by simpa using hdlt) (fun e => hne.2.1 (Option.some.inj e)), heap_setCell_same wr d 5 _ _ _ HROW.out]
          simp [HKL.out]
        · rw [HG5.out.block kb (by simpa using (Array.getElem?_eq_some_iff.1 HKR.out).1) (fun e => hne.2.2 (Option.some.inj e)), heap_setCell_other wr ⟨d, 5, none⟩ kb _ (fun e => hne.1 e.symm)]
          exact HKR.out
        · exact (P.out.keep.at (w' := wr) (fun x hx hm => HG.out.block x (hz x hx) (fun e => hm (.inr (.inl (Option.some.inj e))))) (fun _ _ h => h) (fun _ h => h)).at hoth hM (fun _ h => h)
        · intro x h
          rcases h with h | h | h | h
          · exact hZm x (.inl h)
          · exact hZm x (.inr (.inl h))
          · exact hZm x (.inr (.inr (.inl h)))
          · cases h
        · exact ⟨P.out.ok.size, by show 1 ≤ kept'.length ∧ kept'.length ≤ 65536; rw [HKL.out]; exact P.out.ok.n, HKS.out, (fun q hq => by cases hq), P.out.ok.armed, (by simp), P.out.ok.writes, P.out.ok.reads⟩
      · have := HG5.out.size
        simp at this
        exact Nat.le_trans HG.out.size this
      · have h1 : x ≠ d := fun e => hzx (by rw [e]; exact hZm d (.inl rfl))
        have h2 : x ≠ kb := fun e => hzx (by rw [e]; exact hZm kb (.inr (.inl rfl)))
        have h3 : x ≠ mb := fun e => hzx (by rw [e]; exact hZm mb (.inr (.inr (.inl rfl))))
        rw [HG5.out.block x (by simp; exact Nat.lt_of_lt_of_le hx HG.out.size) (fun e => h3 (Option.some.inj e)), heap_setCell_other wr ⟨d, 5, none⟩ x _ h1]
        exact HG.out.block x hx (fun e => h2 (Option.some.inj e))
theorem RdB.kept {w w' : World} {a : Option Addr} {n c : Nat} {l : List Bool} (r : RdB w a n c l) (h : ∀ x, a = some x → 0 < n → w'.heap[x.block]? = w.heap[x.block]?) : RdB w' a n c l :=
  ⟨r.len, r.cap, r.max, fun i hi => by
    obtain ⟨b, o, e, hc⟩ := r.cell i hi
    exact ⟨b, o, e, by rw [← hc]; exact World.cell?_of_block (a := ⟨b, o + i, none⟩) (h ⟨b, o, none⟩ e (by omega))⟩, r.void⟩
set_option maxRecDepth 100000 in
theorem cut1_any (q : Nat) (ka : Option Addr) (kn kc : Nat) (kl : List Bool) (k : Nat) (w : World) (hq : w.heap[q]? = some (.cells #[.slice ka kn kc] 23 (0, 0))) (hr : RdB w ka kn kc kl) :
    Calls Try.prog 38 #[.int .i64 k, .pointer (some ⟨q, 0, none⟩)] w fun e w' => e = .returned (.bool (kl.getD k false)) ∧ w = w' := by
  have cq : w.cell? ⟨q, 0, none⟩ = some (.slice ka kn kc) := by rw [cell_of_row w _ _ _ _ _ hq]; rfl
  have hlen := hr.len
  by_cases hk : k < kn
  · obtain ⟨b, o, rfl, hc⟩ := hr.cell k hk
    have d1 : decide ((k : Int) < kn) = true := decide_eq_true (by omega)
    have d2 : decide (k < kn) = true := decide_eq_true hk
    clear hr hq hlen
    go_enter Try.func38, Try.ntmps38
    go_wp2
    go_ret
    exact ⟨rfl, rfl⟩
  · have hf : kl.getD k false = false := by
      rw [List.getD_eq_getElem?_getD, List.getElem?_eq_none (by omega)]; rfl
    rw [hf]
    have d1 : decide ((k : Int) < kn) = false := decide_eq_false (by omega)
    have d2 : decide (k < kn) = false := decide_eq_false hk
    clear hr hq hlen hf
    go_enter Try.func38, Try.ntmps38
    go_wp2
    go_ret
    exact ⟨rfl, rfl⟩
set_option linter.unusedSimpArgs false in
set_option linter.unusedVariables false in
set_option maxRecDepth 100000 in
set_option maxHeartbeats 2000000 in
theorem settle_cut (Z : Nat → Prop) (d kb mb : Nat) (pv kv : Value) (vals pvs : List Value) (st : Dk) (w : World) (p : DkP w Z d kb mb pv kv vals pvs st) (hz : ∀ k, Z k → k < w.heap.size) (q : Nat) (ka : Option Addr) (kn kc : Nat) (kl : List Bool) (hq : w.heap[q]? = some (.cells #[.slice ka kn kc] 23 (0, 0))) (kq : q ≠ kb) (hkr : RdB w ka kn kc kl) (hkz : ∀ x, ka = some x → 0 < kn → x.block < w.heap.size) (hkk : ∀ x, ka = some x → 0 < kn → x.block ≠ kb) :
    Calls Try.prog 37 #[.pointer (some ⟨d, 0, none⟩), (.func (.func 38) #[] #[.pointer (some ⟨q, 0, none⟩)])] w fun e w' => e = .returned (.tuple #[]) ∧ DkIn w' Z d { st with kept := settleK (fun i => kl.getD i false) 0 st.pend st.kept, pend := [] } ∧ Tnd Z Z w w' := by
  obtain ⟨c0, c1, c2, c3, c4, c5, c6, c7, c8, cf⟩ := cellsD p.row
  have P := Lib.hid p
  have hpl : ∃ a c, pv = .slice a st.pend.length c := owns_shape p.prow
  obtain ⟨pa, pc, hpv⟩ := hpl
  have hfew := p.ok.few
  have hne := p.ne
  have hrm := p.rm
  have hZm := p.z
  obtain ⟨n, hn⟩ : ∃ n, st.pend.length = n := ⟨_, rfl⟩
  have HN := Lib.hid hn
  rw [hn] at hpv hfew
  have HPV := Lib.hid hpv
  rw [hpv] at c5
  clear p hpv hn
  go_enter Try.func37, Try.ntmps37
  go_wp2_with fail
  go_loopw [11] (fun i wr => ∃ (k : Nat) (vals' : List Value) (kept' : List (List Int)), k ≤ n ∧ i = .int .i64 k ∧ wr.heap[kb]? = some (.cells vals'.toArray 22 (0, 0)) ∧ All2 (SecV wr (MutD d kb mb pv) Z st.size) vals' kept' ∧ Hid (settleK (fun i => kl.getD i false) k (st.pend.drop k) kept' = settleK (fun i => kl.getD i false) 0 st.pend st.kept) ∧ w.grownBy wr (some kb) ∧ kept'.length = st.kept.length ∧ (∀ l ∈ kept', l.length = st.size)) (fun i _ => n - (intOf i).toNat)
  case atStart => exact ⟨0, vals, st.kept, by omega, rfl, P.out.krow, P.out.kvals, rfl, World.grownBy.refl _ _, rfl, P.out.ok.kept⟩
  case round =>
    clear c0 c1 c2 c3 c4 c5 c6 c7 c8 cf
    obtain ⟨k, vals', kept', hk, rfl, hkr, hkv, HS, hg, hkl, hks⟩ := hrel
    have hrow := grown_at P.out.row hg hne.1
    obtain ⟨c0, c1, c2, c3, c4, c5, c6, c7, c8, cf⟩ := cellsD hrow
    have HKR := Lib.hid hkr
    have HKV := Lib.hid hkv
    have HG := Lib.hid hg
    have HKL := Lib.hid hkl
    have HKS := Lib.hid hks
    have hkf : ∀ i, wr.frozen? ⟨kb, i, none⟩ = false := fun i => frozen_of_row wr _ i _ _ hkr
    clear hkr hkv hg hkl hks hrow
    by_cases hp : k < n
    · obtain ⟨⟨s, b⟩, hpk⟩ : ∃ x, st.pend[k]? = some x := ⟨_, List.getElem?_eq_getElem (by rw [HN.out]; exact hp)⟩
      obtain ⟨v, hvk, hv⟩ := P.out.pvals.get hpk
      obtain ⟨g, ga, hgc1, hgc2⟩ := pend_cells P.out.prow hvk hpk (by rw [HN.out]; exact hp)
      obtain ⟨b9, o9, n9, c9, rfl, hr9, hn9, hm9, hz9⟩ := hv
      have hpok := P.out.ok.pend _ (List.mem_of_getElem? hpk)
      obtain ⟨hp1, hp2, hp3⟩ := hpok
      obtain ⟨sn, rfl⟩ := Int.eq_ofNat_of_zero_le (show 0 ≤ s from hp2)
      have hdr : st.pend.drop k = ((sn : Int), b) :: st.pend.drop (k + 1) := by
        rw [List.drop_eq_getElem_cons (by rw [HN.out]; exact hp)]
        congr 1
        have := List.getElem?_eq_getElem (l := st.pend) (i := k) (by rw [HN.out]; exact hp)
        rw [this] at hpk
        injection hpk
      obtain ⟨cg, hpv'⟩ := ga
      rw [HN.out, HPV.out] at hpv'
      injection hpv' with q1 q2 q3
      subst q1 q3
      have hgd := hrm g (by rw [HPV.out]; rfl)
      have hgw : wr.cell? ⟨g, k * 2, none⟩ = some (.int .i64 (sn : Int)) := by
        rw [show k * 2 = 2 * k by omega]
        exact HG.out.cell hgc1 (fun e => hgd.2.1 (Option.some.inj e))
      have hgw2 : wr.cell? ⟨g, k * 2 + 1, none⟩ = some (.slice (some ⟨b9, o9, none⟩) n9 c9) := by
        rw [show k * 2 + 1 = 2 * k + 1 by omega]
        exact HG.out.cell hgc2 (fun e => hgd.2.1 (Option.some.inj e))
      have HDR := Lib.hid hdr
      have HPK := Lib.hid hpk
      have HP1 := Lib.hid hp1
      have HR9 := Lib.hid (RdAt.at (w' := wr) hr9 (HG.out.block b9 (hz b9 hz9) (fun e => hm9 (.inr (.inl (Option.some.inj e))))))
      have hsnl : sn < st.kept.length := by omega
      have hsn2 : sn < kept'.length := by rw [HKL.out]; exact hsnl
      have hkb1 : kb < wr.heap.size := (Array.getElem?_eq_some_iff.1 HKR.out).1
      have hd1 : d < wr.heap.size := Nat.lt_of_lt_of_le (hz d (hZm d (.inl rfl))) HG.out.size
      have hkvlen := HKV.out.1
      have HVL := Lib.hid hkvlen
      clear hgc1 hgc2 hdr hpk hp1 hvk hr9 hkvlen hp2
      go_wp2_with fail
      obtain ⟨w2, hw2⟩ : ∃ w2, wr.alloc (.cells #[.int .i64 (sn : Int), .slice (some ⟨b9, o9, none⟩) n9 c9] 76) = w2 := ⟨_, rfl⟩
      have hb2 : Below wr.heap.size wr w2 := by rw [← hw2]; exact (Below.refl _ _).alloc (Nat.le_refl _) _
      have ht5 : w2.heap[wr.heap.size]? = some (.cells #[.int .i64 (sn : Int), .slice (some ⟨b9, o9, none⟩) n9 c9] 76 (0, 0)) := by rw [← hw2]; exact heap_alloc_new _ _
      rw [hw2]
      clear hw2
      have t50 : w2.cell? ⟨wr.heap.size, 0, none⟩ = some (.int .i64 (sn : Int)) := by rw [cell_of_row w2 _ _ _ _ _ ht5]; rfl
      have t51 : w2.cell? ⟨wr.heap.size, 1, none⟩ = some (.slice (some ⟨b9, o9, none⟩) n9 c9) := by rw [cell_of_row w2 _ _ _ _ _ ht5]; rfl
      have hrow2 := row_keep (grown_at P.out.row HG.out hne.1) hb2
      have hkr2 := row_keep HKR.out hb2
      obtain ⟨y0, y1, y2, y3, y4, y5, y6, y7, y8, yf⟩ := cellsD hrow2
      have hkf2 : ∀ i, w2.frozen? ⟨kb, i, none⟩ = false := fun i => frozen_of_row w2 _ i _ _ hkr2
      have hkc2 : w2.cell? ⟨kb, sn, none⟩ = some (vals'[sn]'(by rw [HVL.out]; exact hsn2)) := by
        rw [cell_of_row w2 _ _ _ _ _ hkr2]
        simp [show sn < vals'.length by rw [HVL.out]; exact hsn2]
      have HKR2 := Lib.hid hkr2
      have HB2 := Lib.hid hb2
      have htn : wr.heap.size ≠ kb := by omega
      obtain ⟨tb, htb⟩ : ∃ tb, wr.heap.size = tb := ⟨_, rfl⟩
      rw [htb] at t50 t51 htn
      rw [htb]
      clear c0 c1 c2 c3 c4 c5 c6 c7 c8 cf hkf ht5 hrow2 hkr2 hb2 hgw hgw2 htb
      have hq2 := row_keep (grown_at hq HG.out kq) HB2.out
      have hk2 := (RdB.kept hkr (fun x hx hn0 => by rw [HB2.out.block x.block (Nat.lt_of_lt_of_le (hkz x hx hn0) HG.out.size)]; exact HG.out.block x.block (hkz x hx hn0) (fun e => hkk x hx hn0 (Option.some.inj e))) : RdB w2 ka kn kc kl)
      refine (cut1_any q ka kn kc kl k _ hq2 hk2).mono ?_
      rintro e w3 ⟨rfl, rfl⟩
      clear hq2 hk2
      by_cases hkk2 : kl.getD k false = true
      · have HKK := Lib.hid hkk2
        rw [HKK.out]
        clear hkk2
        go_wp2_with fail
        go_region
        go_wp2_with fail
        have HNX : Hid (settleK (fun i => kl.getD i false) (k + 1) (st.pend.drop (k + 1)) (kept'.set sn b) = settleK (fun i => kl.getD i false) 0 st.pend st.kept) := by
          show _ = _
          rw [← HS.out, HDR.out, settleK, if_pos HKK.out]
          rfl
        have hoth : ∀ x, Z x → ¬ MutD d kb mb pv x → (w2.setCell ⟨kb, sn, none⟩ (.slice (some ⟨b9, o9, none⟩) n9 c9)).drew.heap[x]? = wr.heap[x]? := by
          intro x hx hm
          show (w2.setCell ⟨kb, sn, none⟩ _).heap[x]? = _
          rw [heap_setCell_other w2 ⟨kb, sn, none⟩ x _ (fun e => hm (.inr (.inl e))), HB2.out.block x (Nat.lt_of_lt_of_le (hz x hx) HG.out.size)]
        have hk3 : (w2.setCell ⟨kb, sn, none⟩ (.slice (some ⟨b9, o9, none⟩) n9 c9)).drew.heap[kb]? = some (.cells (vals'.set sn (.slice (some ⟨b9, o9, none⟩) n9 c9)).toArray 22 (0, 0)) := by
          show (w2.setCell ⟨kb, sn, none⟩ _).heap[kb]? = _
          rw [heap_setCell_same w2 kb sn _ _ _ HKR2.out]
          simp
        have hv3 : All2 (SecV (w2.setCell ⟨kb, sn, none⟩ (.slice (some ⟨b9, o9, none⟩) n9 c9)).drew (MutD d kb mb pv) Z st.size) (vals'.set sn (.slice (some ⟨b9, o9, none⟩) n9 c9)) (kept'.set sn b) :=
          (HKV.out.imp fun v l h => h.at hoth (fun _ _ h => h) (fun _ h => h)).set sn (.inr ⟨b9, o9, n9, c9, rfl, HR9.out.at (hoth b9 hz9 hm9), hn9, hm9, hz9⟩)
        have hg3 : w.grownBy (w2.setCell ⟨kb, sn, none⟩ (.slice (some ⟨b9, o9, none⟩) n9 c9)).drew (some kb) := grown_put HG.out HB2.out kb sn _
        have hl3 : ∀ l ∈ kept'.set sn b, l.length = st.size := fun l hl => by
          rcases List.mem_or_eq_of_mem_set hl with h | h
          · exact HKS.out l h
          · rw [h]; exact HP1.out
        have HK3 := Lib.hid hk3
        have HV3 := Lib.hid hv3
        have HG3 := Lib.hid hg3
        have HL3 := Lib.hid hl3
        clear hk3 hv3 hg3 hl3 hoth
        go_roundw
        case rel => exact ⟨k + 1, vals'.set sn (.slice (some ⟨b9, o9, none⟩) n9 c9), kept'.set sn b, by omega, by go_num, HK3.out, HV3.out, HNX, HG3.out, by rw [List.length_set]; exact HKL.out, HL3.out⟩
        case measure => simp [intOf] <;> omega
      · have hkf0 : kl.getD k false = false := by simpa using hkk2
        have HKK := Lib.hid hkf0
        rw [HKK.out]
        clear hkk2 hkf0
        go_wp2_with fail
        have HNX : Hid (settleK (fun i => kl.getD i false) (k + 1) (st.pend.drop (k + 1)) kept' = settleK (fun i => kl.getD i false) 0 st.pend st.kept) := by
          show _ = _
          rw [← HS.out, HDR.out, settleK, if_neg (by rw [HKK.out]; decide)]
        have HK3 := Lib.hid HKR2.out
        have HV3 := Lib.hid (HKV.out.imp fun v l h => h.at (w' := w2) (fun x hx hm => HB2.out.block x (Nat.lt_of_lt_of_le (hz x hx) HG.out.size)) (fun _ _ h => h) (fun _ h => h))
        have HG3 : Hid (w.grownBy w2 (some kb)) := ⟨HB2.out.os.trans HG.out.os, HB2.out.tape.trans HG.out.tape, HB2.out.output.trans HG.out.output, Nat.le_trans HG.out.size HB2.out.size, fun x hx hne => by rw [HB2.out.block x (Nat.lt_of_lt_of_le hx HG.out.size)]; exact HG.out.block x hx hne⟩
        go_roundw
        case rel => exact ⟨k + 1, vals', kept', by omega, by go_num, HK3.out, HV3.out, HNX, HG3.out, HKL.out, HKS.out⟩
        case measure => simp [intOf] <;> omega

    · obtain rfl : k = n := by omega
      have hK : settleK (fun i => kl.getD i false) 0 st.pend st.kept = kept' := by
        rw [← HS.out, List.drop_of_length_le (by rw [HN.out]; exact Nat.le_refl _)]
        rfl
      have HK := Lib.hid hK
      have hdlt : d < wr.heap.size := Nat.lt_of_lt_of_le (hz d (hZm d (.inl rfl))) HG.out.size
      have hm1 : MapAt (wr.setCell ⟨d, 5, none⟩ (.slice none 0 0)) mb (lastOf st.pend) := P.out.map.at (by
        rw [heap_setCell_other wr ⟨d, 5, none⟩ mb _ (fun e => hne.2.1 e.symm)]
        exact HG.out.block mb (hz mb (hZm mb (.inr (.inr (.inl rfl))))) (fun e => hne.2.2 (Option.some.inj e).symm))
      obtain ⟨vc, w5, hrun, hmap5, hg5⟩ := map_clear hm1 0
      have HM5 := Lib.hid hmap5
      have HG5 := Lib.hid hg5
      have hrow := grown_at P.out.row HG.out hne.1
      have HROW := Lib.hid hrow
      clear hK hm1 hmap5 hg5 hrow
      go_wp2_with fail
      go_end0
      rw [HK.out]
      have hoth : ∀ x, Z x → ¬ MutD d kb mb pv x → w5.heap[x]? = wr.heap[x]? := fun x hx hm => by
        rw [HG5.out.block x (by simp; exact Nat.lt_of_lt_of_le (hz x hx) HG.out.size) (fun e => hm (.inr (.inr (.inl (Option.some.inj e))))), heap_setCell_other wr ⟨d, 5, none⟩ x _ (fun e => hm (.inl e))]
      have hM : ∀ x, Z x → ¬ MutD d kb mb pv x → ¬ MutD d kb mb (.slice none 0 0) x := fun x _ hm h => by
        rcases h with h | h | h | h
        · exact hm (.inl h)
        · exact hm (.inr (.inl h))
        · exact hm (.inr (.inr (.inl h)))
        · cases h
      refine ⟨rfl, ⟨fun x hx => ?_, kb, mb, .slice none 0 0, kv, vals', [], ?_⟩, ⟨HG5.out.os.trans HG.out.os, HG5.out.tape.trans HG.out.tape, HG5.out.output.trans HG.out.output, ?_, fun x hx hzx => ?_, fun x h => .inl h⟩⟩
      · have := HG5.out.size
        simp at this
        exact Nat.lt_of_lt_of_le (hz x hx) (Nat.le_trans HG.out.size this)
      · refine ⟨?_, ?_, HKV.out.imp fun v l h => h.at hoth hM (fun _ h => h), World.ownsRow_nil _ _ _ _, All2.nil _, HM5.out.congr (fun _ => rfl), ?_, hne, (fun g hg => by cases hg), ?_, ?_⟩
        · rw [HG5.out.block d (by simpa using hdlt) (fun e => hne.2.1 (Option.some.inj e)), heap_setCell_same wr d 5 _ _ _ HROW.out]
          simp [HKL.out]
        · rw [HG5.out.block kb (by simpa using (Array.getElem?_eq_some_iff.1 HKR.out).1) (fun e => hne.2.2 (Option.some.inj e)), heap_setCell_other wr ⟨d, 5, none⟩ kb _ (fun e => hne.1 e.symm)]
          exact HKR.out
        · exact (P.out.keep.at (w' := wr) (fun x hx hm => HG.out.block x (hz x hx) (fun e => hm (.inr (.inl (Option.some.inj e))))) (fun _ _ h => h) (fun _ h => h)).at hoth hM (fun _ h => h)
        · intro x h
          rcases h with h | h | h | h
          · exact hZm x (.inl h)
          · exact hZm x (.inr (.inl h))
          · exact hZm x (.inr (.inr (.inl h)))
          · cases h
        · exact ⟨P.out.ok.size, by show 1 ≤ kept'.length ∧ kept'.length ≤ 65536; rw [HKL.out]; exact P.out.ok.n, HKS.out, (fun q hq => by cases hq), P.out.ok.armed, (by simp), P.out.ok.writes, P.out.ok.reads⟩
      · have := HG5.out.size
        simp at this
        exact Nat.le_trans HG.out.size this
      · have h1 : x ≠ d := fun e => hzx (by rw [e]; exact hZm d (.inl rfl))
        have h2 : x ≠ kb := fun e => hzx (by rw [e]; exact hZm kb (.inr (.inl rfl)))
        have h3 : x ≠ mb := fun e => hzx (by rw [e]; exact hZm mb (.inr (.inr (.inl rfl))))
        rw [HG5.out.block x (by simp; exact Nat.lt_of_lt_of_le hx HG.out.size) (fun e => h3 (Option.some.inj e)), heap_setCell_other wr ⟨d, 5, none⟩ x _ h1]
        exact HG.out.block x hx (fun e => h2 (Option.some.inj e))
end Go.Proofs.Ytpgncmoagmkcmaa
