/- Joined: disk: what writes a disk's own blocks: settle, Cut, Flush. disk: the power, Cut, Flush, New. disk: goes, bytes, Read. disk: one more write is pending: what its operations leave; the disk behind it. -/
import Derived.Test.YtcbnebcooiagmaaJy14
import Derived.RegionTactic
import Derived.OwnWalk
import Derived.Carry
import Derived.Test.YtcbnebcooiagmaaJy3
import Derived.Maps.AppendAt
namespace Go.Proofs.Ytcbnebcooiagmaa
open Go.RowKit
theorem cellsD {w : World} {b T : Nat} {x0 x1 x2 x3 x4 x5 x6 x7 x8 : Value} (h : w.heap[b]? = some (.cells #[x0, x1, x2, x3, x4, x5, x6, x7, x8] T (0, 0))) : w.cell? ⟨b, 0, none⟩ = some x0 ∧ w.cell? ⟨b, 1, none⟩ = some x1 ∧ w.cell? ⟨b, 2, none⟩ = some x2 ∧ w.cell? ⟨b, 3, none⟩ = some x3 ∧ w.cell? ⟨b, 4, none⟩ = some x4 ∧ w.cell? ⟨b, 5, none⟩ = some x5 ∧ w.cell? ⟨b, 6, none⟩ = some x6 ∧ w.cell? ⟨b, 7, none⟩ = some x7 ∧ w.cell? ⟨b, 8, none⟩ = some x8 ∧ ∀ i, w.frozen? ⟨b, i, none⟩ = false := by
  refine ⟨?_, ?_, ?_, ?_, ?_, ?_, ?_, ?_, ?_, fun i => frozen_of_row w b i _ _ h⟩ <;> simp [World.cell?, h]
theorem owns_shape {w : World} {e : TypeId} {size n : Nat} {v : Value} {xs : List Value} (h : w.ownsRow 0 e size v n xs) : ∃ a c, v = .slice a n c := by
  rcases h.2 with ⟨h1, h2⟩ | ⟨g, cap, cur, hv, _⟩
  · exact ⟨none, 0, by rw [h1, h2]⟩
  · exact ⟨_, _, hv⟩
theorem grown_at {w w' : World} {h k : Nat} {o : Obj} (ho : w.heap[k]? = some o) (hg : w.grownBy w' (some h)) (hk : k ≠ h) : w'.heap[k]? = some o := by
  rw [hg.block k (Array.getElem?_eq_some_iff.1 ho).1 (fun e => hk (Option.some.inj e))]; exact ho
theorem grown_put {w wr w2 : World} {kb : Nat} (h : w.grownBy wr (some kb)) (hb : Below wr.heap.size wr w2) (kb' sn : Nat) (v : Value) (hk : kb' = kb := by rfl) : w.grownBy (w2.setCell ⟨kb', sn, none⟩ v).drew (some kb) := by
  subst hk
  refine ⟨hb.os.trans h.os, hb.tape.trans h.tape, hb.output.trans h.output, Nat.le_trans h.size (by have := hb.size; simpa [World.drew] using this), fun x hx hne => ?_⟩
  show (w2.setCell ⟨kb', sn, none⟩ v).heap[x]? = _
  rw [heap_setCell_other w2 ⟨kb', sn, none⟩ x _ (fun e => hne (by rw [show x = kb' from e])), hb.block x (Nat.lt_of_lt_of_le hx h.size)]
  exact h.block x hx hne
theorem pendC_at : ∀ {p : List (Int × List Int)} {vs : List Value} {k : Nat} {v : Value} {x : Int × List Int}, vs[k]? = some v → p[k]? = some x → (pendC p vs)[2 * k]? = some (.int .i64 x.1) ∧ (pendC p vs)[2 * k + 1]? = some v
  | [], _, k, v, x, _, h => by simp at h
  | _ :: _, [], k, v, x, h, _ => by simp at h
  | p :: r, u :: t, 0, v, x, h1, h2 => by
    simp at h1 h2
    subst h1 h2
    exact ⟨rfl, rfl⟩
  | p :: r, u :: t, k + 1, v, x, h1, h2 => by
    have := pendC_at (p := r) (vs := t) (k := k) (by simpa using h1) (by simpa using h2)
    rw [show 2 * (k + 1) = 2 * k + 1 + 1 by omega]
    exact this
theorem pend_cells {w : World} {pv : Value} {p : List (Int × List Int)} {vs : List Value} {k : Nat} {v : Value} {x : Int × List Int} (h : w.ownsRow 0 114 2 pv p.length (pendC p vs)) (hv : vs[k]? = some v) (hx : p[k]? = some x) (hk : k < p.length) :
    ∃ g, (∃ c, pv = .slice (some ⟨g, 0, none⟩) p.length c) ∧ w.cell? ⟨g, 2 * k, none⟩ = some (.int .i64 x.1) ∧ w.cell? ⟨g, 2 * k + 1, none⟩ = some v := by
  obtain ⟨h1, h2⟩ := pendC_at hv hx
  rcases h.2 with ⟨h3, h4⟩ | ⟨g, cap, cur, hpv, h0, hh, h5⟩
  · omega
  · subst hpv
    exact ⟨g, ⟨cap, rfl⟩, by rw [h.cellAt (2 * k) (by omega)]; exact h1, by rw [h.cellAt (2 * k + 1) (by omega)]; exact h2⟩
set_option maxRecDepth 100000 in
theorem flush1_any (k : Int) (w : World) : Calls Try.prog 69 #[.int .i64 k] w fun e w' => e = .returned (.bool true) ∧ w = w' := by
  go_enter Try.func69, Try.ntmps69
  go_wp2
  go_ret
  exact ⟨rfl, rfl⟩
set_option linter.unusedSimpArgs false in
set_option linter.unusedVariables false in
set_option maxRecDepth 100000 in
set_option maxHeartbeats 2000000 in
theorem settle_all (Z : Nat → Prop) (d kb mb : Nat) (pv kv : Value) (vals pvs : List Value) (st : Dk) (w : World) (p : DkP w Z d kb mb pv kv vals pvs st) (hz : ∀ k, Z k → k < w.heap.size) :
    Calls Try.prog 66 #[.pointer (some ⟨d, 0, none⟩), (.func (.func 69) #[] #[])] w fun e w' => e = .returned (.tuple #[]) ∧ DkIn w' Z d { st with kept := settleK (fun _ => true) 0 st.pend st.kept, pend := [] } ∧ Tnd Z Z w w' := by
  obtain ⟨c0, c1, c2, c3, c4, c5, c6, c7, c8, cf⟩ := cellsD p.row
  have P := Lib.hid p
  have hpl : ∃ a c, pv = .slice a st.pend.length c := owns_shape p.prow
  obtain ⟨pa, pc, hpv⟩ := hpl
  have hfew := p.ok.few
  have hne := p.ne
  have hrm := p.rm
  have hZm := p.z
  obtain ⟨n, hn⟩ : ∃ n, st.pend.length = n := ⟨_, rfl⟩
  have HN := Lib.hid hn
  rw [hn] at hpv hfew
  have HPV := Lib.hid hpv
  rw [hpv] at c5
  clear p hpv hn
  go_enter Try.func66, Try.ntmps66
  go_wp2_with fail
  go_loopw [11] (fun i wr => ∃ (k : Nat) (vals' : List Value) (kept' : List (List Int)), k ≤ n ∧ i = .int .i64 k ∧ wr.heap[kb]? = some (.cells vals'.toArray 29 (0, 0)) ∧ All2 (SecV wr (MutD d kb mb pv) Z st.size) vals' kept' ∧ Hid (settleK (fun _ => true) k (st.pend.drop k) kept' = settleK (fun _ => true) 0 st.pend st.kept) ∧ w.grownBy wr (some kb) ∧ kept'.length = st.kept.length ∧ (∀ l ∈ kept', l.length = st.size)) (fun i _ => n - (intOf i).toNat)
  case atStart => exact ⟨0, vals, st.kept, by omega, rfl, P.out.krow, P.out.kvals, rfl, World.grownBy.refl _ _, rfl, P.out.ok.kept⟩
  case round =>
    clear c0 c1 c2 c3 c4 c5 c6 c7 c8 cf
    obtain ⟨k, vals', kept', hk, rfl, hkr, hkv, HS, hg, hkl, hks⟩ := hrel
    have hrow := grown_at P.out.row hg hne.1
    obtain ⟨c0, c1, c2, c3, c4, c5, c6, c7, c8, cf⟩ := cellsD hrow
    have HKR := Lib.hid hkr
    have HKV := Lib.hid hkv
    have HG := Lib.hid hg
    have HKL := Lib.hid hkl
    have HKS := Lib.hid hks
    have hkf : ∀ i, wr.frozen? ⟨kb, i, none⟩ = false := fun i => frozen_of_row wr _ i _ _ hkr
    clear hkr hkv hg hkl hks hrow
    by_cases hp : k < n
    · obtain ⟨⟨s, b⟩, hpk⟩ : ∃ x, st.pend[k]? = some x := ⟨_, List.getElem?_eq_getElem (by rw [HN.out]; exact hp)⟩
      obtain ⟨v, hvk, hv⟩ := P.out.pvals.get hpk
      obtain ⟨g, ga, hgc1, hgc2⟩ := pend_cells P.out.prow hvk hpk (by rw [HN.out]; exact hp)
      obtain ⟨b9, o9, n9, c9, rfl, hr9, hn9, hm9, hz9⟩ := hv
      have hpok := P.out.ok.pend _ (List.mem_of_getElem? hpk)
      obtain ⟨hp1, hp2, hp3⟩ := hpok
      obtain ⟨sn, rfl⟩ := Int.eq_ofNat_of_zero_le (show 0 ≤ s from hp2)
      have hdr : st.pend.drop k = ((sn : Int), b) :: st.pend.drop (k + 1) := by
        rw [List.drop_eq_getElem_cons (by rw [HN.out]; exact hp)]
        congr 1
        have := List.getElem?_eq_getElem (l := st.pend) (i := k) (by rw [HN.out]; exact hp)
        rw [this] at hpk
        injection hpk
      obtain ⟨cg, hpv'⟩ := ga
      rw [HN.out, HPV.out] at hpv'
      injection hpv' with q1 q2 q3
      subst q1 q3
      have hgd := hrm g (by rw [HPV.out]; rfl)
      have hgw : wr.cell? ⟨g, k * 2, none⟩ = some (.int .i64 (sn : Int)) := by
        rw [show k * 2 = 2 * k by omega]
        exact HG.out.cell hgc1 (fun e => hgd.2.1 (Option.some.inj e))
      have hgw2 : wr.cell? ⟨g, k * 2 + 1, none⟩ = some (.slice (some ⟨b9, o9, none⟩) n9 c9) := by
        rw [show k * 2 + 1 = 2 * k + 1 by omega]
        exact HG.out.cell hgc2 (fun e => hgd.2.1 (Option.some.inj e))
      have HDR := Lib.hid hdr
      have HPK := Lib.hid hpk
      have HP1 := Lib.hid hp1
      have HR9 := Lib.hid (RdAt.at (w' := wr) hr9 (HG.out.block b9 (hz b9 hz9) (fun e => hm9 (.inr (.inl (Option.some.inj e))))))
      have hsnl : sn < st.kept.length := by omega
      have hsn2 : sn < kept'.length := by rw [HKL.out]; exact hsnl
      have hkb1 : kb < wr.heap.size := (Array.getElem?_eq_some_iff.1 HKR.out).1
      have hd1 : d < wr.heap.size := Nat.lt_of_lt_of_le (hz d (hZm d (.inl rfl))) HG.out.size
      have hkvlen := HKV.out.1
      have HVL := Lib.hid hkvlen
      clear hgc1 hgc2 hdr hpk hp1 hvk hr9 hkvlen hp2
      go_wp2_with fail
      obtain ⟨w2, hw2⟩ : ∃ w2, wr.alloc (.cells #[.int .i64 (sn : Int), .slice (some ⟨b9, o9, none⟩) n9 c9] 114) = w2 := ⟨_, rfl⟩
      have hb2 : Below wr.heap.size wr w2 := by rw [← hw2]; exact (Below.refl _ _).alloc (Nat.le_refl _) _
      have ht5 : w2.heap[wr.heap.size]? = some (.cells #[.int .i64 (sn : Int), .slice (some ⟨b9, o9, none⟩) n9 c9] 114 (0, 0)) := by rw [← hw2]; exact heap_alloc_new _ _
      rw [hw2]
      clear hw2
      have t50 : w2.cell? ⟨wr.heap.size, 0, none⟩ = some (.int .i64 (sn : Int)) := by rw [cell_of_row w2 _ _ _ _ _ ht5]; rfl
      have t51 : w2.cell? ⟨wr.heap.size, 1, none⟩ = some (.slice (some ⟨b9, o9, none⟩) n9 c9) := by rw [cell_of_row w2 _ _ _ _ _ ht5]; rfl
      have hrow2 := row_keep (grown_at P.out.row HG.out hne.1) hb2
      have hkr2 := row_keep HKR.out hb2
      obtain ⟨y0, y1, y2, y3, y4, y5, y6, y7, y8, yf⟩ := cellsD hrow2
      have hkf2 : ∀ i, w2.frozen? ⟨kb, i, none⟩ = false := fun i => frozen_of_row w2 _ i _ _ hkr2
      have hkc2 : w2.cell? ⟨kb, sn, none⟩ = some (vals'[sn]'(by rw [HVL.out]; exact hsn2)) := by
        rw [cell_of_row w2 _ _ _ _ _ hkr2]
        simp [show sn < vals'.length by rw [HVL.out]; exact hsn2]
      have HKR2 := Lib.hid hkr2
      have HB2 := Lib.hid hb2
      have htn : wr.heap.size ≠ kb := by omega
      obtain ⟨tb, htb⟩ : ∃ tb, wr.heap.size = tb := ⟨_, rfl⟩
      rw [htb] at t50 t51 htn
      rw [htb]
      clear c0 c1 c2 c3 c4 c5 c6 c7 c8 cf hkf ht5 hrow2 hkr2 hb2 hgw hgw2 htb
      refine (flush1_any k _).mono ?_
      rintro e w3 ⟨rfl, rfl⟩
      go_wp2_with fail
      go_region
      go_wp2_with fail
      have HNX : Hid (settleK (fun _ => true) (k + 1) (st.pend.drop (k + 1)) (kept'.set sn b) = settleK (fun _ => true) 0 st.pend st.kept) := by
        show _ = _
        rw [← HS.out, HDR.out, settleK]
        rfl
      have hoth : ∀ x, Z x → ¬ MutD d kb mb pv x → (w2.setCell ⟨kb, sn, none⟩ (.slice (some ⟨b9, o9, none⟩) n9 c9)).drew.heap[x]? = wr.heap[x]? := by
        intro x hx hm
        show (w2.setCell ⟨kb, sn, none⟩ _).heap[x]? = _
        rw [heap_setCell_other w2 ⟨kb, sn, none⟩ x _ (fun e => hm (.inr (.inl e))), HB2.out.block x (Nat.lt_of_lt_of_le (hz x hx) HG.out.size)]
      have hk3 : (w2.setCell ⟨kb, sn, none⟩ (.slice (some ⟨b9, o9, none⟩) n9 c9)).drew.heap[kb]? = some (.cells (vals'.set sn (.slice (some ⟨b9, o9, none⟩) n9 c9)).toArray 29 (0, 0)) := by
        show (w2.setCell ⟨kb, sn, none⟩ _).heap[kb]? = _
        rw [heap_setCell_same w2 kb sn _ _ _ HKR2.out]
        simp
      have hv3 : All2 (SecV (w2.setCell ⟨kb, sn, none⟩ (.slice (some ⟨b9, o9, none⟩) n9 c9)).drew (MutD d kb mb pv) Z st.size) (vals'.set sn (.slice (some ⟨b9, o9, none⟩) n9 c9)) (kept'.set sn b) :=
        (HKV.out.imp fun v l h => h.at hoth (fun _ _ h => h) (fun _ h => h)).set sn (.inr ⟨b9, o9, n9, c9, rfl, HR9.out.at (hoth b9 hz9 hm9), hn9, hm9, hz9⟩)
      have hg3 : w.grownBy (w2.setCell ⟨kb, sn, none⟩ (.slice (some ⟨b9, o9, none⟩) n9 c9)).drew (some kb) := grown_put HG.out HB2.out kb sn _
      have hl3 : ∀ l ∈ kept'.set sn b, l.length = st.size := fun l hl => by
        rcases List.mem_or_eq_of_mem_set hl with h | h
        · exact HKS.out l h
        · rw [h]; exact HP1.out
      have HK3 := Lib.hid hk3
      have HV3 := Lib.hid hv3
      have HG3 := Lib.hid hg3
      have HL3 := Lib.hid hl3
      clear hk3 hv3 hg3 hl3 hoth
      go_roundw
      case rel => exact ⟨k + 1, vals'.set sn (.slice (some ⟨b9, o9, none⟩) n9 c9), kept'.set sn b, by omega, by go_num, HK3.out, HV3.out, HNX, HG3.out, by rw [List.length_set]; exact HKL.out, HL3.out⟩
      case measure => simp [intOf] <;> omega

    · obtain rfl : k = n := by omega
      have hK : settleK (fun _ => true) 0 st.pend st.kept = kept' := by
        rw [← HS.out, List.drop_of_length_le (by rw [HN.out]; exact Nat.le_refl _)]
        rfl
      have HK := Lib.hid hK
      have hdlt : d < wr.heap.size := Nat.lt_of_lt_of_le (hz d (hZm d (.inl rfl))) HG.out.size
      have hm1 : MapAt (wr.setCell ⟨d, 5, none⟩ (.slice none 0 0)) mb (lastOf st.pend) := P.out.map.at (by
        rw [heap_setCell_other wr ⟨d, 5, none⟩ mb _ (fun e => hne.2.1 e.symm)]
        exact HG.out.block mb (hz mb (hZm mb (.inr (.inr (.inl rfl))))) (fun e => hne.2.2 (Option.some.inj e).symm))
      obtain ⟨vc, w5, hrun, hmap5, hg5⟩ := map_clear hm1 0
      have HM5 := Lib.hid hmap5
      have HG5 := Lib.hid hg5
      have hrow := grown_at P.out.row HG.out hne.1
      have HROW := Lib.hid hrow
      clear hK hm1 hmap5 hg5 hrow
      go_wp2_with fail
      go_end0
      rw [HK.out]
      have hoth : ∀ x, Z x → ¬ MutD d kb mb pv x → w5.heap[x]? = wr.heap[x]? := fun x hx hm => by
        rw [HG5.out.block x (by simp; exact Nat.lt_of_lt_of_le (hz x hx) HG.out.size) (fun e => hm (.inr (.inr (.inl (Option.some.inj e))))), heap_setCell_other wr ⟨d, 5, none⟩ x _ (fun e => hm (.inl e))]
      have hM : ∀ x, Z x → ¬ MutD d kb mb pv x → ¬ MutD d kb mb (.slice none 0 0) x := fun x _ hm h => by
        rcases h with h | h | h | h
        · exact hm (.inl h)
        · exact hm (.inr (.inl h))
        · exact hm (.inr (.inr (.inl h)))
        · cases h
      refine ⟨rfl, ⟨fun x hx => ?_, kb, mb, .slice none 0 0, kv, vals', [], ?_⟩, ⟨HG5.out.os.trans HG.out.os, HG5.out.tape.trans HG.out.tape, HG5.out.output.trans HG.out.output, ?_, fun x hx hzx => ?_, fun x h => .inl h⟩⟩
      · have := HG5.out.size
        simp at this
        exact Nat.lt_of_lt_of_le (hz x hx) (Nat.le_trans HG.out.size this)
      · refine ⟨?_, ?_, HKV.out.imp fun v l h => h.at hoth hM (fun _ h => h), World.ownsRow_nil _ _ _ _, All2.nil _, HM5.out.congr (fun _ => rfl), ?_, hne, (fun g hg => by cases hg), ?_, ?_⟩
        · rw [HG5.out.block d (by simpa using hdlt) (fun e => hne.2.1 (Option.some.inj e)), heap_setCell_same wr d 5 _ _ _ HROW.out]
          simp [HKL.out]
        · rw [HG5.out.block kb (by simpa using (Array.getElem?_eq_some_iff.1 HKR.out).1) (fun e => hne.2.2 (Option.some.inj e)), heap_setCell_other wr ⟨d, 5, none⟩ kb _ (fun e => hne.1 e.symm)]
          exact HKR.out
        · exact (P.out.keep.at (w' := wr) (fun x hx hm => HG.out.block x (hz x hx) (fun e => hm (.inr (.inl (Option.some.inj e))))) (fun _ _ h => h) (fun _ h => h)).at hoth hM (fun _ h => h)
        · intro x h
          rcases h with h | h | h | h
          · exact hZm x (.inl h)
          · exact hZm x (.inr (.inl h))
          · exact hZm x (.inr (.inr (.inl h)))
          · cases h
        · exact ⟨P.out.ok.size, by show 1 ≤ kept'.length ∧ kept'.length ≤ 65536; rw [HKL.out]; exact P.out.ok.n, HKS.out, (fun q hq => by cases hq), P.out.ok.armed, (by simp), P.out.ok.writes, P.out.ok.reads⟩
      · have := HG5.out.size
        simp at this
        exact Nat.le_trans HG.out.size this
      · have h1 : x ≠ d := fun e => hzx (by rw [e]; exact hZm d (.inl rfl))
        have h2 : x ≠ kb := fun e => hzx (by rw [e]; exact hZm kb (.inr (.inl rfl)))
        have h3 : x ≠ mb := fun e => hzx (by rw [e]; exact hZm mb (.inr (.inr (.inl rfl))))
        rw [HG5.out.block x (by simp; exact Nat.lt_of_lt_of_le hx HG.out.size) (fun e => h3 (Option.some.inj e)), heap_setCell_other wr ⟨d, 5, none⟩ x _ h1]
        exact HG.out.block x hx (fun e => h2 (Option.some.inj e))
theorem RdB.kept {w w' : World} {a : Option Addr} {n c : Nat} {l : List Bool} (r : RdB w a n c l) (h : ∀ x, a = some x → 0 < n → w'.heap[x.block]? = w.heap[x.block]?) : RdB w' a n c l :=
  ⟨r.len, r.cap, r.max, fun i hi => by
    obtain ⟨b, o, e, hc⟩ := r.cell i hi
    exact ⟨b, o, e, by rw [← hc]; exact World.cell?_of_block (a := ⟨b, o + i, none⟩) (h ⟨b, o, none⟩ e (by omega))⟩, r.void⟩
set_option maxRecDepth 100000 in
theorem cut1_any (q : Nat) (ka : Option Addr) (kn kc : Nat) (kl : List Bool) (k : Nat) (w : World) (hq : w.heap[q]? = some (.cells #[.slice ka kn kc] 61 (0, 0))) (hr : RdB w ka kn kc kl) :
    Calls Try.prog 67 #[.int .i64 k, .pointer (some ⟨q, 0, none⟩)] w fun e w' => e = .returned (.bool (kl.getD k false)) ∧ w = w' := by
  have cq : w.cell? ⟨q, 0, none⟩ = some (.slice ka kn kc) := by rw [cell_of_row w _ _ _ _ _ hq]; rfl
  have hlen := hr.len
  by_cases hk : k < kn
  · obtain ⟨b, o, rfl, hc⟩ := hr.cell k hk
    have d1 : decide ((k : Int) < kn) = true := decide_eq_true (by omega)
    have d2 : decide (k < kn) = true := decide_eq_true hk
    clear hr hq hlen
    go_enter Try.func67, Try.ntmps67
    go_wp2
    go_ret
    exact ⟨rfl, rfl⟩
  · have hf : kl.getD k false = false := by
      rw [List.getD_eq_getElem?_getD, List.getElem?_eq_none (by omega)]; rfl
    rw [hf]
    have d1 : decide ((k : Int) < kn) = false := decide_eq_false (by omega)
    have d2 : decide (k < kn) = false := decide_eq_false hk
    clear hr hq hlen hf
    go_enter Try.func67, Try.ntmps67
    go_wp2
    go_ret
    exact ⟨rfl, rfl⟩
set_option linter.unusedSimpArgs false in
set_option linter.unusedVariables false in
set_option maxRecDepth 100000 in
set_option maxHeartbeats 2000000 in
theorem settle_cut (Z : Nat → Prop) (d kb mb : Nat) (pv kv : Value) (vals pvs : List Value) (st : Dk) (w : World) (p : DkP w Z d kb mb pv kv vals pvs st) (hz : ∀ k, Z k → k < w.heap.size) (q : Nat) (ka : Option Addr) (kn kc : Nat) (kl : List Bool) (hq : w.heap[q]? = some (.cells #[.slice ka kn kc] 61 (0, 0))) (kq : q ≠ kb) (hkr : RdB w ka kn kc kl) (hkz : ∀ x, ka = some x → 0 < kn → x.block < w.heap.size) (hkk : ∀ x, ka = some x → 0 < kn → x.block ≠ kb) :
    Calls Try.prog 66 #[.pointer (some ⟨d, 0, none⟩), (.func (.func 67) #[] #[.pointer (some ⟨q, 0, none⟩)])] w fun e w' => e = .returned (.tuple #[]) ∧ DkIn w' Z d { st with kept := settleK (fun i => kl.getD i false) 0 st.pend st.kept, pend := [] } ∧ Tnd Z Z w w' := by
  obtain ⟨c0, c1, c2, c3, c4, c5, c6, c7, c8, cf⟩ := cellsD p.row
  have P := Lib.hid p
  have hpl : ∃ a c, pv = .slice a st.pend.length c := owns_shape p.prow
  obtain ⟨pa, pc, hpv⟩ := hpl
  have hfew := p.ok.few
  have hne := p.ne
  have hrm := p.rm
  have hZm := p.z
  obtain ⟨n, hn⟩ : ∃ n, st.pend.length = n := ⟨_, rfl⟩
  have HN := Lib.hid hn
  rw [hn] at hpv hfew
  have HPV := Lib.hid hpv
  rw [hpv] at c5
  clear p hpv hn
  go_enter Try.func66, Try.ntmps66
  go_wp2_with fail
  go_loopw [11] (fun i wr => ∃ (k : Nat) (vals' : List Value) (kept' : List (List Int)), k ≤ n ∧ i = .int .i64 k ∧ wr.heap[kb]? = some (.cells vals'.toArray 29 (0, 0)) ∧ All2 (SecV wr (MutD d kb mb pv) Z st.size) vals' kept' ∧ Hid (settleK (fun i => kl.getD i false) k (st.pend.drop k) kept' = settleK (fun i => kl.getD i false) 0 st.pend st.kept) ∧ w.grownBy wr (some kb) ∧ kept'.length = st.kept.length ∧ (∀ l ∈ kept', l.length = st.size)) (fun i _ => n - (intOf i).toNat)
  case atStart => exact ⟨0, vals, st.kept, by omega, rfl, P.out.krow, P.out.kvals, rfl, World.grownBy.refl _ _, rfl, P.out.ok.kept⟩
  case round =>
    clear c0 c1 c2 c3 c4 c5 c6 c7 c8 cf
    obtain ⟨k, vals', kept', hk, rfl, hkr, hkv, HS, hg, hkl, hks⟩ := hrel
    have hrow := grown_at P.out.row hg hne.1
    obtain ⟨c0, c1, c2, c3, c4, c5, c6, c7, c8, cf⟩ := cellsD hrow
    have HKR := Lib.hid hkr
    have HKV := Lib.hid hkv
    have HG := Lib.hid hg
    have HKL := Lib.hid hkl
    have HKS := Lib.hid hks
    have hkf : ∀ i, wr.frozen? ⟨kb, i, none⟩ = false := fun i => frozen_of_row wr _ i _ _ hkr
    clear hkr hkv hg hkl hks hrow
    by_cases hp : k < n
    · obtain ⟨⟨s, b⟩, hpk⟩ : ∃ x, st.pend[k]? = some x := ⟨_, List.getElem?_eq_getElem (by rw [HN.out]; exact hp)⟩
      obtain ⟨v, hvk, hv⟩ := P.out.pvals.get hpk
      obtain ⟨g, ga, hgc1, hgc2⟩ := pend_cells P.out.prow hvk hpk (by rw [HN.out]; exact hp)
      obtain ⟨b9, o9, n9, c9, rfl, hr9, hn9, hm9, hz9⟩ := hv
      have hpok := P.out.ok.pend _ (List.mem_of_getElem? hpk)
      obtain ⟨hp1, hp2, hp3⟩ := hpok
      obtain ⟨sn, rfl⟩ := Int.eq_ofNat_of_zero_le (show 0 ≤ s from hp2)
      have hdr : st.pend.drop k = ((sn : Int), b) :: st.pend.drop (k + 1) := by
        rw [List.drop_eq_getElem_cons (by rw [HN.out]; exact hp)]
        congr 1
        have := List.getElem?_eq_getElem (l := st.pend) (i := k) (by rw [HN.out]; exact hp)
        rw [this] at hpk
        injection hpk
      obtain ⟨cg, hpv'⟩ := ga
      rw [HN.out, HPV.out] at hpv'
      injection hpv' with q1 q2 q3
      subst q1 q3
      have hgd := hrm g (by rw [HPV.out]; rfl)
      have hgw : wr.cell? ⟨g, k * 2, none⟩ = some (.int .i64 (sn : Int)) := by
        rw [show k * 2 = 2 * k by omega]
        exact HG.out.cell hgc1 (fun e => hgd.2.1 (Option.some.inj e))
      have hgw2 : wr.cell? ⟨g, k * 2 + 1, none⟩ = some (.slice (some ⟨b9, o9, none⟩) n9 c9) := by
        rw [show k * 2 + 1 = 2 * k + 1 by omega]
        exact HG.out.cell hgc2 (fun e => hgd.2.1 (Option.some.inj e))
      have HDR := Lib.hid hdr
      have HPK := Lib.hid hpk
      have HP1 := Lib.hid hp1
      have HR9 := Lib.hid (RdAt.at (w' := wr) hr9 (HG.out.block b9 (hz b9 hz9) (fun e => hm9 (.inr (.inl (Option.some.inj e))))))
      have hsnl : sn < st.kept.length := by omega
      have hsn2 : sn < kept'.length := by rw [HKL.out]; exact hsnl
      have hkb1 : kb < wr.heap.size := (Array.getElem?_eq_some_iff.1 HKR.out).1
      have hd1 : d < wr.heap.size := Nat.lt_of_lt_of_le (hz d (hZm d (.inl rfl))) HG.out.size
      have hkvlen := HKV.out.1
      have HVL := Lib.hid hkvlen
      clear hgc1 hgc2 hdr hpk hp1 hvk hr9 hkvlen hp2
      go_wp2_with fail
      obtain ⟨w2, hw2⟩ : ∃ w2, wr.alloc (.cells #[.int .i64 (sn : Int), .slice (some ⟨b9, o9, none⟩) n9 c9] 114) = w2 := ⟨_, rfl⟩
      have hb2 : Below wr.heap.size wr w2 := by rw [← hw2]; exact (Below.refl _ _).alloc (Nat.le_refl _) _
      have ht5 : w2.heap[wr.heap.size]? = some (.cells #[.int .i64 (sn : Int), .slice (some ⟨b9, o9, none⟩) n9 c9] 114 (0, 0)) := by rw [← hw2]; exact heap_alloc_new _ _
      rw [hw2]
      clear hw2
      have t50 : w2.cell? ⟨wr.heap.size, 0, none⟩ = some (.int .i64 (sn : Int)) := by rw [cell_of_row w2 _ _ _ _ _ ht5]; rfl
      have t51 : w2.cell? ⟨wr.heap.size, 1, none⟩ = some (.slice (some ⟨b9, o9, none⟩) n9 c9) := by rw [cell_of_row w2 _ _ _ _ _ ht5]; rfl
      have hrow2 := row_keep (grown_at P.out.row HG.out hne.1) hb2
      have hkr2 := row_keep HKR.out hb2
      obtain ⟨y0, y1, y2, y3, y4, y5, y6, y7, y8, yf⟩ := cellsD hrow2
      have hkf2 : ∀ i, w2.frozen? ⟨kb, i, none⟩ = false := fun i => frozen_of_row w2 _ i _ _ hkr2
      have hkc2 : w2.cell? ⟨kb, sn, none⟩ = some (vals'[sn]'(by rw [HVL.out]; exact hsn2)) := by
        rw [cell_of_row w2 _ _ _ _ _ hkr2]
        simp [show sn < vals'.length by rw [HVL.out]; exact hsn2]
      have HKR2 := Lib.hid hkr2
      have HB2 := Lib.hid hb2
      have htn : wr.heap.size ≠ kb := by omega
      obtain ⟨tb, htb⟩ : ∃ tb, wr.heap.size = tb := ⟨_, rfl⟩
      rw [htb] at t50 t51 htn
      rw [htb]
      clear c0 c1 c2 c3 c4 c5 c6 c7 c8 cf hkf ht5 hrow2 hkr2 hb2 hgw hgw2 htb
      have hq2 := row_keep (grown_at hq HG.out kq) HB2.out
      have hk2 := (RdB.kept hkr (fun x hx hn0 => by rw [HB2.out.block x.block (Nat.lt_of_lt_of_le (hkz x hx hn0) HG.out.size)]; exact HG.out.block x.block (hkz x hx hn0) (fun e => hkk x hx hn0 (Option.some.inj e))) : RdB w2 ka kn kc kl)
      refine (cut1_any q ka kn kc kl k _ hq2 hk2).mono ?_
      rintro e w3 ⟨rfl, rfl⟩
      clear hq2 hk2
      by_cases hkk2 : kl.getD k false = true
      · have HKK := Lib.hid hkk2
        rw [HKK.out]
        clear hkk2
        go_wp2_with fail
        go_region
        go_wp2_with fail
        have HNX : Hid (settleK (fun i => kl.getD i false) (k + 1) (st.pend.drop (k + 1)) (kept'.set sn b) = settleK (fun i => kl.getD i false) 0 st.pend st.kept) := by
          show _ = _
          rw [← HS.out, HDR.out, settleK, if_pos HKK.out]
          rfl
        have hoth : ∀ x, Z x → ¬ MutD d kb mb pv x → (w2.setCell ⟨kb, sn, none⟩ (.slice (some ⟨b9, o9, none⟩) n9 c9)).drew.heap[x]? = wr.heap[x]? := by
          intro x hx hm
          show (w2.setCell ⟨kb, sn, none⟩ _).heap[x]? = _
          rw [heap_setCell_other w2 ⟨kb, sn, none⟩ x _ (fun e => hm (.inr (.inl e))), HB2.out.block x (Nat.lt_of_lt_of_le (hz x hx) HG.out.size)]
        have hk3 : (w2.setCell ⟨kb, sn, none⟩ (.slice (some ⟨b9, o9, none⟩) n9 c9)).drew.heap[kb]? = some (.cells (vals'.set sn (.slice (some ⟨b9, o9, none⟩) n9 c9)).toArray 29 (0, 0)) := by
          show (w2.setCell ⟨kb, sn, none⟩ _).heap[kb]? = _
          rw [heap_setCell_same w2 kb sn _ _ _ HKR2.out]
          simp
        have hv3 : All2 (SecV (w2.setCell ⟨kb, sn, none⟩ (.slice (some ⟨b9, o9, none⟩) n9 c9)).drew (MutD d kb mb pv) Z st.size) (vals'.set sn (.slice (some ⟨b9, o9, none⟩) n9 c9)) (kept'.set sn b) :=
          (HKV.out.imp fun v l h => h.at hoth (fun _ _ h => h) (fun _ h => h)).set sn (.inr ⟨b9, o9, n9, c9, rfl, HR9.out.at (hoth b9 hz9 hm9), hn9, hm9, hz9⟩)
        have hg3 : w.grownBy (w2.setCell ⟨kb, sn, none⟩ (.slice (some ⟨b9, o9, none⟩) n9 c9)).drew (some kb) := grown_put HG.out HB2.out kb sn _
        have hl3 : ∀ l ∈ kept'.set sn b, l.length = st.size := fun l hl => by
          rcases List.mem_or_eq_of_mem_set hl with h | h
          · exact HKS.out l h
          · rw [h]; exact HP1.out
        have HK3 := Lib.hid hk3
        have HV3 := Lib.hid hv3
        have HG3 := Lib.hid hg3
        have HL3 := Lib.hid hl3
        clear hk3 hv3 hg3 hl3 hoth
        go_roundw
        case rel => exact ⟨k + 1, vals'.set sn (.slice (some ⟨b9, o9, none⟩) n9 c9), kept'.set sn b, by omega, by go_num, HK3.out, HV3.out, HNX, HG3.out, by rw [List.length_set]; exact HKL.out, HL3.out⟩
        case measure => simp [intOf] <;> omega
      · have hkf0 : kl.getD k false = false := by simpa using hkk2
        have HKK := Lib.hid hkf0
        rw [HKK.out]
        clear hkk2 hkf0
        go_wp2_with fail
        have HNX : Hid (settleK (fun i => kl.getD i false) (k + 1) (st.pend.drop (k + 1)) kept' = settleK (fun i => kl.getD i false) 0 st.pend st.kept) := by
          show _ = _
          rw [← HS.out, HDR.out, settleK, if_neg (by rw [HKK.out]; decide)]
        have HK3 := Lib.hid HKR2.out
        have HV3 := Lib.hid (HKV.out.imp fun v l h => h.at (w' := w2) (fun x hx hm => HB2.out.block x (Nat.lt_of_lt_of_le (hz x hx) HG.out.size)) (fun _ _ h => h) (fun _ h => h))
        have HG3 : Hid (w.grownBy w2 (some kb)) := ⟨HB2.out.os.trans HG.out.os, HB2.out.tape.trans HG.out.tape, HB2.out.output.trans HG.out.output, Nat.le_trans HG.out.size HB2.out.size, fun x hx hne => by rw [HB2.out.block x (Nat.lt_of_lt_of_le hx HG.out.size)]; exact HG.out.block x hx hne⟩
        go_roundw
        case rel => exact ⟨k + 1, vals', kept', by omega, by go_num, HK3.out, HV3.out, HNX, HG3.out, HKL.out, HKS.out⟩
        case measure => simp [intOf] <;> omega

    · obtain rfl : k = n := by omega
      have hK : settleK (fun i => kl.getD i false) 0 st.pend st.kept = kept' := by
        rw [← HS.out, List.drop_of_length_le (by rw [HN.out]; exact Nat.le_refl _)]
        rfl
      have HK := Lib.hid hK
      have hdlt : d < wr.heap.size := Nat.lt_of_lt_of_le (hz d (hZm d (.inl rfl))) HG.out.size
      have hm1 : MapAt (wr.setCell ⟨d, 5, none⟩ (.slice none 0 0)) mb (lastOf st.pend) := P.out.map.at (by
        rw [heap_setCell_other wr ⟨d, 5, none⟩ mb _ (fun e => hne.2.1 e.symm)]
        exact HG.out.block mb (hz mb (hZm mb (.inr (.inr (.inl rfl))))) (fun e => hne.2.2 (Option.some.inj e).symm))
      obtain ⟨vc, w5, hrun, hmap5, hg5⟩ := map_clear hm1 0
      have HM5 := Lib.hid hmap5
      have HG5 := Lib.hid hg5
      have hrow := grown_at P.out.row HG.out hne.1
      have HROW := Lib.hid hrow
      clear hK hm1 hmap5 hg5 hrow
      go_wp2_with fail
      go_end0
      rw [HK.out]
      have hoth : ∀ x, Z x → ¬ MutD d kb mb pv x → w5.heap[x]? = wr.heap[x]? := fun x hx hm => by
        rw [HG5.out.block x (by simp; exact Nat.lt_of_lt_of_le (hz x hx) HG.out.size) (fun e => hm (.inr (.inr (.inl (Option.some.inj e))))), heap_setCell_other wr ⟨d, 5, none⟩ x _ (fun e => hm (.inl e))]
      have hM : ∀ x, Z x → ¬ MutD d kb mb pv x → ¬ MutD d kb mb (.slice none 0 0) x := fun x _ hm h => by
        rcases h with h | h | h | h
        · exact hm (.inl h)
        · exact hm (.inr (.inl h))
        · exact hm (.inr (.inr (.inl h)))
        · cases h
      refine ⟨rfl, ⟨fun x hx => ?_, kb, mb, .slice none 0 0, kv, vals', [], ?_⟩, ⟨HG5.out.os.trans HG.out.os, HG5.out.tape.trans HG.out.tape, HG5.out.output.trans HG.out.output, ?_, fun x hx hzx => ?_, fun x h => .inl h⟩⟩
      · have := HG5.out.size
        simp at this
        exact Nat.lt_of_lt_of_le (hz x hx) (Nat.le_trans HG.out.size this)
      · refine ⟨?_, ?_, HKV.out.imp fun v l h => h.at hoth hM (fun _ h => h), World.ownsRow_nil _ _ _ _, All2.nil _, HM5.out.congr (fun _ => rfl), ?_, hne, (fun g hg => by cases hg), ?_, ?_⟩
        · rw [HG5.out.block d (by simpa using hdlt) (fun e => hne.2.1 (Option.some.inj e)), heap_setCell_same wr d 5 _ _ _ HROW.out]
          simp [HKL.out]
        · rw [HG5.out.block kb (by simpa using (Array.getElem?_eq_some_iff.1 HKR.out).1) (fun e => hne.2.2 (Option.some.inj e)), heap_setCell_other wr ⟨d, 5, none⟩ kb _ (fun e => hne.1 e.symm)]
          exact HKR.out
        · exact (P.out.keep.at (w' := wr) (fun x hx hm => HG.out.block x (hz x hx) (fun e => hm (.inr (.inl (Option.some.inj e))))) (fun _ _ h => h) (fun _ h => h)).at hoth hM (fun _ h => h)
        · intro x h
          rcases h with h | h | h | h
          · exact hZm x (.inl h)
          · exact hZm x (.inr (.inl h))
          · exact hZm x (.inr (.inr (.inl h)))
          · cases h
        · exact ⟨P.out.ok.size, by show 1 ≤ kept'.length ∧ kept'.length ≤ 65536; rw [HKL.out]; exact P.out.ok.n, HKS.out, (fun q hq => by cases hq), P.out.ok.armed, (by simp), P.out.ok.writes, P.out.ok.reads⟩
      · have := HG5.out.size
        simp at this
        exact Nat.le_trans HG.out.size this
      · have h1 : x ≠ d := fun e => hzx (by rw [e]; exact hZm d (.inl rfl))
        have h2 : x ≠ kb := fun e => hzx (by rw [e]; exact hZm kb (.inr (.inl rfl)))
        have h3 : x ≠ mb := fun e => hzx (by rw [e]; exact hZm mb (.inr (.inr (.inl rfl))))
        rw [HG5.out.block x (by simp; exact Nat.lt_of_lt_of_le hx HG.out.size) (fun e => h3 (Option.some.inj e)), heap_setCell_other wr ⟨d, 5, none⟩ x _ h1]
        exact HG.out.block x hx (fun e => h2 (Option.some.inj e))
end Go.Proofs.Ytcbnebcooiagmaa
namespace Go.Proofs.Ytcbnebcooiagmaa
open Go.RowKit
theorem DkP.re {w w' : World} {Z : Nat → Prop} {d kb mb : Nat} {pv kv : Value} {vals pvs : List Value} {st st' : Dk} (p : DkP w Z d kb mb pv kv vals pvs st) (hoth : ∀ x, Z x → x ≠ d → w'.heap[x]? = w.heap[x]?)
    (row : w'.heap[d]? = some (.cells #[.bool st'.off, .int .i64 st'.armed, kv, .int .i64 st'.size, .slice (some ⟨kb, 0, none⟩) st'.kept.length st'.kept.length, pv, .map (some mb), .int .i64 st'.writes, .int .i64 st'.reads] 69 (0, 0))) (e1 : st'.kept = st.kept) (e2 : st'.size = st.size) (e3 : st'.pend = st.pend) (e4 : st'.keep = st.keep) (ok : DkOk st') : DkP w' Z d kb mb pv kv vals pvs st' := by
  have hm : ∀ x, Z x → ¬ MutD d kb mb pv x → w'.heap[x]? = w.heap[x]? := fun x hx h => hoth x hx (fun e => h (.inl e))
  refine ⟨row, ?_, ?_, ?_, ?_, ?_, ?_, p.ne, p.rm, p.z, ok⟩
  · rw [hoth kb (p.z kb (.inr (.inl rfl))) p.ne.1.symm]; exact p.krow
  · rw [e1, e2]; exact p.kvals.imp fun v l h => h.at hm (fun _ _ h => h) (fun _ h => h)
  · rw [e3]; exact ownsRow_at p.prow (fun g hg => hoth g (p.z g (.inr (.inr (.inr hg)))) (p.rm g hg).1)
  · rw [e3]; exact p.pvals.imp fun v l h => h.at hm (fun _ _ h => h) (fun _ h => h)
  · rw [e3]; exact p.map.at (hoth mb (p.z mb (.inr (.inr (.inl rfl)))) p.ne.2.1.symm)
  · rw [e4]; exact p.keep.at hm (fun _ _ h => h) (fun _ h => h)
theorem Tnd.trans {Z Z1 Z2 : Nat → Prop} {w w1 w2 : World} (h : Tnd Z Z1 w w1) (k : Tnd Z1 Z2 w1 w2) : Tnd Z Z2 w w2 :=
  ⟨k.os.trans h.os, k.tape.trans h.tape, k.output.trans h.output, Nat.le_trans h.size k.size, fun x hx hn => by
    rw [k.block x (Nat.lt_of_lt_of_le hx h.size) (fun h1 => by rcases h.sub x h1 with h2 | h2; exact hn h2; omega)]
    exact h.block x hx hn, fun x hx => by
    rcases k.sub x hx with h1 | h1
    · exact h.sub x h1
    · exact .inr (Nat.le_trans h.size h1)⟩
theorem heap_alloc_keep (w : World) (o : Obj) {k : Nat} (h : k < w.heap.size) : (w.alloc o).heap[k]? = w.heap[k]? := by
  show (w.heap.push o)[k]? = _
  simp [Array.getElem?_push, Nat.ne_of_lt h]
/-- A disk that nothing has touched. -/
theorem DkIn.same {w w' : World} {Z : Nat → Prop} {d : Nat} {st : Dk} (h : DkIn w Z d st) (hs : ∀ x, Z x → w'.heap[x]? = w.heap[x]?) (hsz : w.heap.size ≤ w'.heap.size) : DkIn w' Z d st := by
  obtain ⟨hz, kb, mb, pv, kv, vals, pvs, p⟩ := h
  refine ⟨fun x hx => Nat.lt_of_lt_of_le (hz x hx) hsz, kb, mb, pv, kv, vals, pvs, p.re (fun x hx _ => hs x hx) ?_ rfl rfl rfl rfl p.ok⟩
  rw [hs d (p.z d (.inl rfl))]; exact p.row
theorem DkIn.below {w w' : World} {Z : Nat → Prop} {d : Nat} {st : Dk} (h : DkIn w Z d st) (hb : Below w.heap.size w w') : DkIn w' Z d st := h.same (fun x hx => hb.block x (h.1 x hx)) hb.size
set_option linter.unusedSimpArgs false in
set_option linter.unusedVariables false in
set_option maxRecDepth 100000 in
set_option maxHeartbeats 2000000 in
theorem off_any (Z : Nat → Prop) (d : Nat) (st : Dk) (w : World) (h : DkIn w Z d st) :
    Calls Try.prog 26 #[.pointer (some ⟨d, 0, none⟩)] w fun e w' => e = .returned (.bool st.off) ∧ w = w' := by
  obtain ⟨hz, kb, mb, pv, kv, vals, pvs, p⟩ := h
  obtain ⟨c0, c1, c2, c3, c4, c5, c6, c7, c8, cf⟩ := cellsD p.row
  clear p
  go_enter Try.func26, Try.ntmps26
  go_wp2
  go_ret
  exact ⟨rfl, rfl⟩
set_option linter.unusedSimpArgs false in
set_option linter.unusedVariables false in
set_option maxRecDepth 100000 in
set_option maxHeartbeats 2000000 in
theorem pending_any (Z : Nat → Prop) (d : Nat) (st : Dk) (w : World) (h : DkIn w Z d st) :
    Calls Try.prog 24 #[.pointer (some ⟨d, 0, none⟩)] w fun e w' => e = .returned (.int .i64 (st.pend.length : Nat)) ∧ w = w' := by
  obtain ⟨hz, kb, mb, pv, kv, vals, pvs, p⟩ := h
  obtain ⟨c0, c1, c2, c3, c4, c5, c6, c7, c8, cf⟩ := cellsD p.row
  obtain ⟨pa, pc, hpv⟩ := owns_shape p.prow
  rw [hpv] at c5
  clear p hpv
  go_enter Try.func24, Try.ntmps24
  go_wp2
  go_ret
  exact ⟨rfl, rfl⟩
set_option linter.unusedSimpArgs false in
set_option linter.unusedVariables false in
set_option maxRecDepth 100000 in
set_option maxHeartbeats 2000000 in
theorem there_any (Z : Nat → Prop) (d : Nat) (st : Dk) (s : Int) (w : World) (h : DkIn w Z d st) :
    Calls Try.prog 62 #[.pointer (some ⟨d, 0, none⟩), .int .i64 s] w fun e w' => e = .returned (.bool (inS st s)) ∧ w = w' := by
  obtain ⟨hz, kb, mb, pv, kv, vals, pvs, p⟩ := h
  obtain ⟨c0, c1, c2, c3, c4, c5, c6, c7, c8, cf⟩ := cellsD p.row
  have hE : inS st s = (decide (0 ≤ s) && decide (s < st.kept.length)) := rfl
  clear p
  by_cases h0 : 0 ≤ s
  · have d0 : decide (0 ≤ s) = true := decide_eq_true h0
    rw [hE, d0]
    clear hE
    go_enter Try.func62, Try.ntmps62
    go_wp2
    all_goals
      go_ret
      exact ⟨rfl, rfl⟩
  · have d0 : decide (0 ≤ s) = false := decide_eq_false h0
    rw [hE, d0]
    clear hE
    go_enter Try.func62, Try.ntmps62
    go_wp2
    go_ret
    exact ⟨rfl, rfl⟩
set_option linter.unusedSimpArgs false in
set_option linter.unusedVariables false in
set_option maxRecDepth 100000 in
set_option maxHeartbeats 2000000 in
theorem on_any (Z : Nat → Prop) (d : Nat) (st : Dk) (w : World) (h : DkIn w Z d st) :
    Calls Try.prog 28 #[.pointer (some ⟨d, 0, none⟩)] w fun e w' => e = .returned (.tuple #[]) ∧ DkIn w' Z d { st with off := false } ∧ Tnd Z Z w w' := by
  obtain ⟨hz, kb, mb, pv, kv, vals, pvs, p⟩ := h
  obtain ⟨c0, c1, c2, c3, c4, c5, c6, c7, c8, cf⟩ := cellsD p.row
  have P := Lib.hid p
  have hZm := p.z
  clear p
  go_enter Try.func28, Try.ntmps28
  go_wp2
  go_end0
  refine ⟨rfl, ⟨fun x hx => by simpa using hz x hx, kb, mb, pv, kv, vals, pvs, P.out.re (fun x _ hne => heap_setCell_other w ⟨d, 0, none⟩ x _ hne) ?_ rfl rfl rfl rfl ⟨P.out.ok.size, P.out.ok.n, P.out.ok.kept, P.out.ok.pend, P.out.ok.armed, P.out.ok.few, P.out.ok.writes, P.out.ok.reads⟩⟩, ⟨rfl, rfl, rfl, by simp, fun x _ hzx => heap_setCell_other w ⟨d, 0, none⟩ x _ (fun e => hzx (by rw [show x = d from e]; exact hZm d (.inl rfl))), fun x h => .inl h⟩⟩
  rw [heap_setCell_same w d 0 _ _ _ P.out.row]
  simp
set_option linter.unusedSimpArgs false in
set_option linter.unusedVariables false in
set_option maxRecDepth 100000 in
set_option maxHeartbeats 2000000 in
theorem cutP (Z : Nat → Prop) (d kb mb : Nat) (pv kv : Value) (vals pvs : List Value) (st : Dk) (w : World) (p : DkP w Z d kb mb pv kv vals pvs st) (hz : ∀ k, Z k → k < w.heap.size) (a : Option Addr) (n c : Nat) (kl : List Bool) (hr : RdB w a n c kl) (hlo : ∀ x, a = some x → 0 < n → x.block < w.heap.size ∧ ¬ MutD d kb mb pv x.block) :
    Calls Try.prog 27 #[.pointer (some ⟨d, 0, none⟩), .slice a n c] w fun e w' => e = .returned (.tuple #[]) ∧ DkIn w' Z d (cutS st kl) ∧ Tnd Z Z w w' := by
  have hd : d < w.heap.size := hz d (p.z d (.inl rfl))
  obtain ⟨c0, c1, c2, c3, c4, c5, c6, c7, c8, cf⟩ := cellsD p.row
  have P := Lib.hid p
  have hdq : d ≠ w.heap.size := by omega
  clear p
  go_enter Try.func27, Try.ntmps27
  have hmf : ∀ (fn : Fn) (first cap : Array Value) (w : World), (Instr.makeFunc fn first cap).run Try.prog w = .ok (.func fn first cap) w := fun _ _ _ _ => rfl
  go_wp2_with fail
  obtain ⟨w2, hw2⟩ : ∃ w2, (((w.setCell ⟨d, 0, none⟩ (.bool true)).setCell ⟨d, 1, none⟩ (.int .i64 0)).alloc (.cells #[.slice a n c] 61)) = w2 := ⟨_, rfl⟩
  have hoth : ∀ x, x < w.heap.size → x ≠ d → w2.heap[x]? = w.heap[x]? := fun x hx hne => by
    rw [← hw2, heap_alloc_keep _ _ (by simpa using hx), heap_setCell_other _ ⟨d, 1, none⟩ x _ hne, heap_setCell_other _ ⟨d, 0, none⟩ x _ hne]
  have hrow : w2.heap[d]? = some (.cells #[.bool true, .int .i64 0, kv, .int .i64 st.size, .slice (some ⟨kb, 0, none⟩) st.kept.length st.kept.length, pv, .map (some mb), .int .i64 st.writes, .int .i64 st.reads] 69 (0, 0)) := by
    rw [← hw2, heap_alloc_keep _ _ (by simpa using hd), heap_setCell_same _ d 1 _ _ _ (heap_setCell_same w d 0 _ _ _ P.out.row)]
    simp
  have hq : w2.heap[w.heap.size]? = some (.cells #[.slice a n c] 61 (0, 0)) := by
    rw [← hw2]
    have := heap_alloc_new ((w.setCell ⟨d, 0, none⟩ (.bool true)).setCell ⟨d, 1, none⟩ (.int .i64 0)) (.cells #[.slice a n c] 61)
    simpa using this
  have hs2 : w2.heap.size = w.heap.size + 1 := by rw [← hw2]; simp
  have hmeta : w2.os = w.os ∧ w2.tape = w.tape ∧ w2.output = w.output := by rw [← hw2]; exact ⟨rfl, rfl, rfl⟩
  rw [hw2]
  have P2 : DkP w2 Z d kb mb pv kv vals pvs { st with off := true, armed := 0 } := P.out.re (fun x hx hne => hoth x (hz x hx) hne) hrow rfl rfl rfl rfl ⟨P.out.ok.size, P.out.ok.n, P.out.ok.kept, P.out.ok.pend, ⟨(show (0:Int) ≤ 0 by decide), (show (0:Int) ≤ 9223372036854775807 by decide)⟩, P.out.ok.few, P.out.ok.writes, P.out.ok.reads⟩
  have hkb : kb < w.heap.size := hz kb (P.out.z kb (.inr (.inl rfl)))
  have ht2 : Tnd Z Z w w2 := ⟨hmeta.1, hmeta.2.1, hmeta.2.2, by omega, fun x hx hzx => hoth x hx (fun e => hzx (by rw [e]; exact P.out.z d (.inl rfl))), fun x h => .inl h⟩
  refine (settle_cut Z d kb mb pv kv vals pvs _ w2 P2 (fun x hx => by have := hz x hx; omega) w.heap.size a n c kl hq (by omega) (hr.kept (fun x h1 h2 => hoth x.block (hlo x h1 h2).1 (fun e => (hlo x h1 h2).2 (.inl e)))) (fun x h1 h2 => by have := (hlo x h1 h2).1; omega) (fun x h1 h2 e => (hlo x h1 h2).2 (.inr (.inl e)))).mono ?_
  rintro e w3 ⟨rfl, hd3, ht3⟩
  have HD3 := Lib.hid hd3
  have HT3 := Lib.hid (ht2.trans ht3)
  clear hd3 ht3 ht2 P2 hoth hrow hq hw2 c0 c1 c2 c3 c4 c5 c6 c7 c8 cf
  go_wp2_with fail
  go_end0
  exact ⟨rfl, HD3.out, HT3.out⟩
set_option linter.unusedSimpArgs false in
set_option linter.unusedVariables false in
set_option maxRecDepth 100000 in
set_option maxHeartbeats 2000000 in
theorem cut_any (Z : Nat → Prop) (d : Nat) (st : Dk) (w : World) (h : DkIn w Z d st) (a : Option Addr) (n c : Nat) (kl : List Bool) (hr : RdB w a n c kl) (hlo : ∀ x, a = some x → 0 < n → x.block < w.heap.size ∧ ¬ Z x.block) :
    Calls Try.prog 27 #[.pointer (some ⟨d, 0, none⟩), .slice a n c] w fun e w' => e = .returned (.tuple #[]) ∧ DkIn w' Z d (cutS st kl) ∧ Tnd Z Z w w' := by
  obtain ⟨hz, kb, mb, pv, kv, vals, pvs, p⟩ := h
  exact cutP Z d kb mb pv kv vals pvs st w p hz a n c kl hr (fun x h1 h2 => ⟨(hlo x h1 h2).1, fun hm => (hlo x h1 h2).2 (p.z _ hm)⟩)
set_option linter.unusedSimpArgs false in
set_option linter.unusedVariables false in
set_option maxRecDepth 100000 in
set_option maxHeartbeats 2000000 in
theorem flush_any (Z : Nat → Prop) (d : Nat) (st : Dk) (w : World) (h : DkIn w Z d st) :
    Calls Try.prog 30 #[.pointer (some ⟨d, 0, none⟩)] w fun e w' => e = .returned (.int .i64 (if st.off = true then 8 else 0)) ∧ DkIn w' Z d (if st.off = true then st else flushS st) ∧ Tnd Z Z w w' := by
  have H := Lib.hid h
  cases ho : st.off with
  | true =>
    rw [if_pos rfl, if_pos rfl]
    have HO := Lib.hid ho
    clear ho h
    go_enter Try.func30, Try.ntmps30
    go_wp2_with fail
    refine (off_any Z d st w H.out).mono ?_
    rintro e w1 ⟨rfl, rfl⟩
    rw [HO.out]
    go_wp2_with fail
    go_ret
    exact ⟨rfl, H.out, Tnd.refl _ _⟩
  | false =>
    rw [if_neg (by decide), if_neg (by decide)]
    have HO := Lib.hid ho
    obtain ⟨hz, kb, mb, pv, kv, vals, pvs, p⟩ := h
    have P := Lib.hid p
    clear ho p
    go_enter Try.func30, Try.ntmps30
    go_wp2_with fail
    refine (off_any Z d st w H.out).mono ?_
    rintro e w1 ⟨rfl, rfl⟩
    rw [HO.out]
    go_wp2_with fail
    refine (settle_all Z d kb mb pv kv vals pvs st w P.out hz).mono ?_
    rintro e w1 ⟨rfl, hd1, ht1⟩
    have HD1 := Lib.hid hd1
    have HT1 := Lib.hid ht1
    clear hd1 ht1
    go_wp2_with fail
    go_ret
    exact ⟨rfl, HD1.out, HT1.out⟩
end Go.Proofs.Ytcbnebcooiagmaa
namespace Go.Proofs.Ytcbnebcooiagmaa
open Go.RowKit
set_option maxRecDepth 100000 in
theorem secT : Try.prog.underlying 65 = some (.slice 29) := Try.underlying65
set_option maxRecDepth 100000 in
theorem mkI : (Try.prog.info? 5).map (fun i => (i.zero, i.size, i.bytes)) = some (some (.int .u8 0), 1, 1) := by kernel_rfl
set_option maxRecDepth 100000 in
theorem mk_bytes (n : Nat) (hn : n ≤ 1000000) (w : World) : (Instr.makeSlice 29 (.int .i64 (n : Int)) (.int .i64 (n : Int))).run Try.prog w = .ok (.slice (some ⟨w.heap.size, 0, none⟩) n n) (w.alloc (.cells (List.replicate n (.int .u8 0)).toArray 5)) := by
  obtain ⟨i, hi, hz, hs, hb⟩ := info_parts mkI
  have hr := run_make (P := Try.prog) w 29 5 i (.int .u8 0) u8T hi hz .i64 .i64 n n (by omega) (Int.le_refl _) (by rw [hb]; omega) (by omega)
  rw [hr, hs, Int.toNat_natCast, Nat.mul_one]
  congr 4
  rw [show (Value.int .u8 0).cells = #[.int .u8 0] from rfl, ← toList_madeCells_one]
theorem zeros_own (n : Nat) (hn : n ≤ 1000000) (w : World) : Owns .u8 5 (w.alloc (.cells (List.replicate n (.int .u8 0)).toArray 5)) w.heap.size (.slice (some ⟨w.heap.size, 0, none⟩) n n) (List.replicate n 0) := by
  refine ⟨fun x hx => by rw [List.eq_of_mem_replicate hx]; rfl, .inr ?_⟩
  have := World.ownsRow_lit (base := w.heap.size) (e := 5) (size := 1) w (List.replicate n (.int .u8 0)).toArray n (Nat.le_refl _) (by unfold maxLen; omega) (by simp)
  simpa using this
theorem sec_at {w : World} {Z : Nat → Prop} {d kb mb : Nat} {pv kv : Value} {vals pvs : List Value} {st : Dk} (p : DkP w Z d kb mb pv kv vals pvs st) {s : Nat} (hs : s < st.kept.length) :
    ∃ v l, st.kept[s]? = some l ∧ SecV w (MutD d kb mb pv) Z st.size v l ∧ w.cell? ⟨kb, s, none⟩ = some v ∧ l.length = st.size := by
  have hl : st.kept[s]? = some st.kept[s] := List.getElem?_eq_getElem hs
  obtain ⟨v, hv, hsv⟩ := p.kvals.get hl
  refine ⟨v, st.kept[s], hl, hsv, ?_, p.ok.kept _ (List.getElem_mem hs)⟩
  rw [cell_of_row w _ _ _ _ _ p.krow]
  simpa using hv
set_option linter.unusedSimpArgs false in
set_option linter.unusedVariables false in
set_option maxRecDepth 100000 in
set_option maxHeartbeats 2000000 in
theorem bytes_any (Z : Nat → Prop) (d : Nat) (st : Dk) (s : Nat) (w : World) (h : DkIn w Z d st) (hs : s < st.kept.length) :
    Calls Try.prog 64 #[.pointer (some ⟨d, 0, none⟩), .int .i64 s] w (GivesBytes ((st.kept[s]?).getD []) w) := by
  obtain ⟨hz, kb, mb, pv, kv, vals, pvs, p⟩ := h
  obtain ⟨c0, c1, c2, c3, c4, c5, c6, c7, c8, cf⟩ := cellsD p.row
  obtain ⟨v, l, hl, hv, hc, hll⟩ := sec_at p hs
  have hsz := p.ok.size
  have hn := p.ok.n
  rw [hl, Option.getD_some]
  have hnil := fun (w : World) (a : Option Addr) (n c : Nat) => Lib.run_eql_slice_nil (P := Try.prog) w 29 5 a n c 0 0 Try.underlying29
  obtain ⟨n, hN⟩ : ∃ n, st.size = n := ⟨_, rfl⟩
  rw [hN] at hsz hll c3 hv
  have hmk := mk_bytes n (by omega)
  have hown := zeros_own n (by omega) w
  have HO := Lib.hid hown
  have hd1 : decide ((s : Int) < st.kept.length) = true := decide_eq_true (by omega)
  clear p hl hown
  rcases hv with ⟨rfl, rfl⟩ | ⟨b, o, n9, c9, rfl, hr, hn9, _, _⟩
  · go_enter Try.func64, Try.ntmps64
    go_wp2
    go_ret
    exact ⟨_, rfl, HO.out, (Below.refl _ _).alloc (Nat.le_refl _) _⟩
  · have h9 : n9 ≤ 1000000000 := by have := hr.len; omega
    have HR := Lib.hid hr
    clear hr
    go_enter Try.func64, Try.ntmps64
    go_wp2_with fail
    refine (clone_any _ _ _ _ _ HR.out h9).mono ?_
    rintro e w2 ⟨v2, rfl, ho2, hb2⟩
    have HO2 := Lib.hid ho2
    have HB2 := Lib.hid hb2
    obtain ⟨a2, k2, rfl⟩ := ho2.shapeN n hll
    clear ho2 hb2
    go_wp2_with fail
    go_ret
    exact ⟨_, rfl, HO2.out, HB2.out⟩
set_option linter.unusedSimpArgs false in
set_option linter.unusedVariables false in
set_option maxRecDepth 100000 in
set_option maxHeartbeats 2000000 in
theorem goes_any (Z : Nat → Prop) (d kb mb : Nat) (pv kv : Value) (vals pvs : List Value) (st : Dk) (w : World) (p : DkP w Z d kb mb pv kv vals pvs st) (hz : ∀ k, Z k → k < w.heap.size) :
    Calls Try.prog 68 #[.pointer (some ⟨d, 0, none⟩)] w fun e w' => e = .returned (.bool (decide (st.armed = 1))) ∧ DkP w' Z d kb mb pv kv vals pvs { st with armed := if st.armed = 0 then 0 else st.armed - 1 } ∧ Tnd Z Z w w' ∧ (∀ k, Z k → k < w'.heap.size) := by
  obtain ⟨c0, c1, c2, c3, c4, c5, c6, c7, c8, cf⟩ := cellsD p.row
  have P := Lib.hid p
  have ha := p.ok.armed
  have hd : d < w.heap.size := hz d (p.z d (.inl rfl))
  clear p
  by_cases h0 : st.armed = 0
  · have e1 : decide (st.armed = 1) = false := decide_eq_false (by omega)
    have e2 : ({ st with armed := if st.armed = 0 then 0 else st.armed - 1 } : Dk) = st := by rw [if_pos h0, ← h0]
    rw [e1, e2]
    rw [h0] at c1
    go_enter Try.func68, Try.ntmps68
    go_wp2
    go_ret
    exact ⟨rfl, P.out, Tnd.refl _ _, hz⟩
  · have d0 : decide (st.armed = 0) = false := decide_eq_false h0
    have e1 : decide (st.armed - 1 = 0) = decide (st.armed = 1) := by
      by_cases h : st.armed = 1
      · rw [h]; decide
      · rw [decide_eq_false h, decide_eq_false (by omega)]
    rw [if_neg h0]
    have w1 : IntKind.i64.wrap (st.armed - 1) = st.armed - 1 := by rw [IntKind.wrap_i64]; omega
    go_enter Try.func68, Try.ntmps68
    go_wp2
    go_ret
    refine ⟨by rw [← e1]; rfl, P.out.re (fun x _ hne => heap_setCell_other w ⟨d, 1, none⟩ x _ hne) ?_ rfl rfl rfl rfl ⟨P.out.ok.size, P.out.ok.n, P.out.ok.kept, P.out.ok.pend, ⟨by show 0 ≤ st.armed - 1; omega, by show st.armed - 1 ≤ 9223372036854775807; omega⟩, P.out.ok.few, P.out.ok.writes, P.out.ok.reads⟩, ⟨rfl, rfl, rfl, by simp, fun x _ hzx => heap_setCell_other w ⟨d, 1, none⟩ x _ (fun e => hzx (by rw [show x = d from e]; exact P.out.z d (.inl rfl))), fun x h => .inl h⟩, fun x hx => by simpa using hz x hx⟩
    rw [heap_setCell_same w d 1 _ _ _ P.out.row]
    simp
set_option linter.unusedSimpArgs false in
set_option linter.unusedVariables false in
set_option maxRecDepth 100000 in
set_option maxHeartbeats 2000000 in
theorem read_any (Z : Nat → Prop) (d : Nat) (st : Dk) (s : Int) (w : World) (h : DkIn w Z d st) (hs1 : -9223372036854775808 ≤ s) (hs2 : s ≤ 9223372036854775807) (hrd : st.reads + 1 ≤ 4611686018427387904) :
    Calls Try.prog 23 #[.pointer (some ⟨d, 0, none⟩), .int .i64 s] w fun e w' => ∃ v, e = .returned (.tuple #[v, .int .i64 (rdE st s)]) ∧ Owns .u8 5 w' w.heap.size v (rdV st s) ∧ DkIn w' Z d (rdS st s) ∧ Tnd Z Z w w' := by
  have H := Lib.hid h
  cases ho : st.off with
  | true =>
    have e1 : rdE st s = 8 := by unfold rdE; rw [ho]; rfl
    have e2 : rdS st s = st := by unfold rdS; rw [e1, if_neg (by decide)]
    have e3 : rdV st s = [] := by unfold rdV; rw [e1, if_neg (by decide)]
    rw [e1, e2, e3]
    have HO := Lib.hid ho
    clear ho h e1 e2 e3
    go_enter Try.func23, Try.ntmps23
    go_wp2_with fail
    refine (off_any Z d st w H.out).mono ?_
    rintro e w1 ⟨rfl, rfl⟩
    rw [HO.out]
    go_wp2_with fail
    go_ret2
    exact ⟨_, rfl, Owns.nil _ _ _ _, H.out, Tnd.refl _ _⟩
  | false =>
    cases hi : inS st s with
    | false =>
      have e1 : rdE st s = 1 := by unfold rdE; rw [ho, hi]; rfl
      have e2 : rdS st s = st := by unfold rdS; rw [e1, if_neg (by decide)]
      have e3 : rdV st s = [] := by unfold rdV; rw [e1, if_neg (by decide)]
      rw [e1, e2, e3]
      have HO := Lib.hid ho
      have HI := Lib.hid hi
      clear ho h e1 e2 e3 hi
      go_enter Try.func23, Try.ntmps23
      go_wp2_with fail
      refine (off_any Z d st w H.out).mono ?_
      rintro e w1 ⟨rfl, rfl⟩
      rw [HO.out]
      go_wp2_with fail
      refine (there_any Z d st s w H.out).mono ?_
      rintro e w2 ⟨rfl, rfl⟩
      rw [HI.out]
      go_wp2_with fail
      go_ret2
      exact ⟨_, rfl, Owns.nil _ _ _ _, H.out, Tnd.refl _ _⟩
    | true =>
      have e1 : rdE st s = 0 := by unfold rdE; rw [ho, hi]; rfl
      have e2 : rdS st s = { st with reads := st.reads + 1 } := by unfold rdS; rw [e1, if_pos rfl]
      have e3 : rdV st s = secB st s.toNat := by unfold rdV; rw [e1, if_pos rfl]
      rw [e1, e2, e3]
      have HO := Lib.hid ho
      have HI := Lib.hid hi
      obtain ⟨hz, kb, mb, pv, kv, vals, pvs, p⟩ := h
      obtain ⟨c0, c1, c2, c3, c4, c5, c6, c7, c8, cf⟩ := cellsD p.row
      have hbd : 0 ≤ s ∧ s < st.kept.length := by
        unfold inS at hi
        simpa using hi
      obtain ⟨sn, rfl⟩ := Int.eq_ofNat_of_zero_le hbd.1
      have hsn : sn < st.kept.length := by omega
      have hr0 := p.ok.reads
      have wr1 : IntKind.i64.wrap (st.reads + 1) = st.reads + 1 := by rw [IntKind.wrap_i64]; omega
      have P := Lib.hid p
      have hd : d < w.heap.size := hz d (p.z d (.inl rfl))
      have hne := p.ne
      have hwf : (Lit.int .i64 (sn : Int)).wf = true := by
        have := p.ok.n
        simp [Lit.wf, IntKind.min, IntKind.max, IntKind.signed, IntKind.bits]
        omega
      have hP2 : DkP (w.setCell ⟨d, 8, none⟩ (.int .i64 (st.reads + 1))) Z d kb mb pv kv vals pvs { st with reads := st.reads + 1 } := by
        refine p.re (fun x _ hne => heap_setCell_other w ⟨d, 8, none⟩ x _ hne) ?_ rfl rfl rfl rfl ⟨p.ok.size, p.ok.n, p.ok.kept, p.ok.pend, p.ok.armed, p.ok.few, p.ok.writes, ⟨by show 0 ≤ st.reads + 1; omega, hrd⟩⟩
        rw [heap_setCell_same w d 8 _ _ _ p.row]
        simp
      have hlk := map_look hP2.map (sn : Int) hwf
      have HP2 := Lib.hid hP2
      have hT2 : Hid (Tnd Z Z w (w.setCell ⟨d, 8, none⟩ (.int .i64 (st.reads + 1)))) := ⟨rfl, rfl, rfl, by simp, fun x _ hzx => heap_setCell_other w ⟨d, 8, none⟩ x _ (fun e => hzx (by rw [show x = d from e]; exact P.out.z d (.inl rfl))), fun x h => .inl h⟩
      clear ho hi e1 e2 e3 hP2 hwf
      cases hlo : lastOf st.pend (sn : Int) with
      | none =>
        have hE : secB st (Int.toNat sn) = (st.kept[sn]?).getD [] := by
          unfold secB
          rw [show (((Int.toNat sn : Nat)) : Int) = sn by omega, hlo]
          rfl
        rw [hE]
        replace hlk : (Instr.lookup 67 (.map (some mb)) (.agg #[.int .i64 (sn : Int)]) true).run Try.prog (w.setCell ⟨d, 8, none⟩ (.int .i64 (st.reads + 1))) = .ok (.tuple #[.int .i64 0, .bool false]) (w.setCell ⟨d, 8, none⟩ (.int .i64 (st.reads + 1))) := by
          rw [hlk]
          simp only [hlo]
          rfl
        clear hlo hE p
        go_enter Try.func23, Try.ntmps23
        go_wp2_with fail
        refine (off_any Z d st w H.out).mono ?_
        rintro e w1 ⟨rfl, rfl⟩
        rw [HO.out]
        go_wp2_with fail
        refine (there_any Z d st (sn : Int) w H.out).mono ?_
        rintro e w2 ⟨rfl, rfl⟩
        rw [HI.out]
        go_wp2_with fail
        refine (bytes_any Z d { st with reads := st.reads + 1 } sn (w.setCell ⟨d, 8, none⟩ (.int .i64 (st.reads + 1))) ⟨fun x hx => by simpa using hz x hx, kb, mb, pv, kv, vals, pvs, HP2.out⟩ hsn).mono ?_
        rintro e w2 ⟨v2, rfl, ho2, hb2⟩
        obtain ⟨a2, n2, k2, hv2⟩ : ∃ a n k, v2 = .slice a n k := by obtain ⟨a, k, h⟩ := ho2.shape; exact ⟨a, _, k, h⟩
        have HO2 := Lib.hid ho2
        have HB2 := Lib.hid hb2
        subst hv2
        clear ho2 hb2
        go_wp2_with fail
        go_ret2
        have hsz8 : (w.setCell ⟨d, 8, none⟩ (.int .i64 (st.reads + 1))).heap.size = w.heap.size := by simp
        refine ⟨_, rfl, by have := HO2.out; rw [hsz8] at this; exact this, DkIn.below ⟨fun x hx => by simpa using hz x hx, kb, mb, pv, kv, vals, pvs, HP2.out⟩ HB2.out, hT2.out.trans ⟨HB2.out.os, HB2.out.tape, HB2.out.output, HB2.out.size, fun x hx _ => HB2.out.block x hx, fun x h => .inl h⟩⟩
      | some i =>
        obtain ⟨k, rfl, hk, b, hpk⟩ := lastOf_some hlo
        have hE : secB st (Int.toNat sn) = b := by
          unfold secB
          rw [show (((Int.toNat sn : Nat)) : Int) = sn by omega, hlo]
          show ((st.pend[Int.toNat k]?).map (·.2)).getD [] = b
          rw [Int.toNat_natCast, hpk]
          rfl
        rw [hE]
        replace hlk : (Instr.lookup 67 (.map (some mb)) (.agg #[.int .i64 (sn : Int)]) true).run Try.prog (w.setCell ⟨d, 8, none⟩ (.int .i64 (st.reads + 1))) = .ok (.tuple #[.int .i64 (k : Int), .bool true]) (w.setCell ⟨d, 8, none⟩ (.int .i64 (st.reads + 1))) := by
          rw [hlk]
          simp only [hlo]
          rfl
        obtain ⟨v, hvk, hv⟩ := p.pvals.get hpk
        obtain ⟨g, ⟨cg, hpv⟩, _, hgc2⟩ := pend_cells p.prow hvk hpk hk
        obtain ⟨b9, o9, n9, c9, rfl, hr9, hn9, hm9, hz9⟩ := hv
        have hgd : g ≠ d := (p.rm g (by rw [hpv]; rfl)).1
        rw [show 2 * k + 1 = k * 2 + 1 by omega] at hgc2
        rw [hpv] at c5
        have hpok := (p.ok.pend _ (List.mem_of_getElem? hpk)).1
        have hszb := p.ok.size
        have h9 : n9 ≤ 1000000000 := by
          have hl1 : b.length = st.size := hpok
          have hl2 : b.length = n9 := hr9.len
          omega
        have HR9 := Lib.hid (RdAt.at (w' := w.setCell ⟨d, 8, none⟩ (.int .i64 (st.reads + 1))) hr9 (heap_setCell_other w ⟨d, 8, none⟩ b9 _ (fun e => hm9 (.inl e))))
        have HPV := Lib.hid hpv
        have hdk : decide ((k : Int) < st.pend.length) = true := decide_eq_true (by omega)
        clear hlo hE p hvk hpk hr9 hm9 hz9 hpv hpok hszb
        go_enter Try.func23, Try.ntmps23
        go_wp2_with fail
        refine (off_any Z d st w H.out).mono ?_
        rintro e w1 ⟨rfl, rfl⟩
        rw [HO.out]
        go_wp2_with fail
        refine (there_any Z d st (sn : Int) w H.out).mono ?_
        rintro e w2 ⟨rfl, rfl⟩
        rw [HI.out]
        go_wp2_with fail
        refine (clone_any _ _ _ _ _ HR9.out h9).mono ?_
        rintro e w2 ⟨v2, rfl, ho2, hb2⟩
        obtain ⟨a2, n2, k2, hv2⟩ : ∃ a n k, v2 = .slice a n k := by obtain ⟨a, k, h⟩ := ho2.shape; exact ⟨a, _, k, h⟩
        have HO2 := Lib.hid ho2
        have HB2 := Lib.hid hb2
        subst hv2
        clear ho2 hb2
        go_wp2_with fail
        go_ret2
        have hsz8 : (w.setCell ⟨d, 8, none⟩ (.int .i64 (st.reads + 1))).heap.size = w.heap.size := by simp
        refine ⟨_, rfl, by have := HO2.out; rw [hsz8] at this; exact this, DkIn.below ⟨fun x hx => by simpa using hz x hx, kb, mb, pv, kv, vals, pvs, HP2.out⟩ HB2.out, hT2.out.trans ⟨HB2.out.os, HB2.out.tape, HB2.out.output, HB2.out.size, fun x hx _ => HB2.out.block x hx, fun x h => .inl h⟩⟩
end Go.Proofs.Ytcbnebcooiagmaa
namespace Go.Proofs.Ytcbnebcooiagmaa
open Go.RowKit
theorem pendC_snoc : ∀ {p : List (Int × List Int)} {vs : List Value} (s : Int) (b : List Int) (v : Value), vs.length = p.length → pendC (p ++ [(s, b)]) (vs ++ [v]) = pendC p vs ++ [.int .i64 s, v]
  | [], [], _, _, _, _ => rfl
  | [], _ :: _, _, _, _, h => by simp at h
  | _ :: _, [], _, _, _, h => by simp at h
  | (t, c) :: p, u :: vs, s, b, v, h => by
    show .int .i64 t :: u :: pendC (p ++ [(s, b)]) (vs ++ [v]) = .int .i64 t :: u :: (pendC p vs ++ [.int .i64 s, v])
    rw [pendC_snoc s b v (by simpa using h)]
theorem Owns.slc {w : World} {B : Nat} {v : Value} {l : List Int} (h : Owns .u8 5 w B v l) (hl : 0 < l.length) :
    ∃ g c, v = .slice (some ⟨g, 0, none⟩) l.length c ∧ room v = some g ∧ RdAt .u8 w (some ⟨g, 0, none⟩) l.length c l ∧ B ≤ g ∧ g < w.heap.size := by
  have hrd : ∀ g c, v = .slice (some ⟨g, 0, none⟩) l.length c → RdAt .u8 w (some ⟨g, 0, none⟩) l.length c l := fun g c e => by
    rw [e] at h
    exact h.rd
  rcases h.2 with ⟨rfl, _⟩ | h2
  · simp at hl
  · rcases h2.2 with ⟨_, h0⟩ | ⟨g, cap, cur, hv, hB, hh, hnc, _⟩
    · omega
    · have hr : room v = some g := by rw [hv]; show (if cap = 0 then none else some g) = some g; rw [if_neg (by omega)]
      have := h.at_base g hr
      exact ⟨g, cap, hv, hr, hrd g cap hv, this.1, this.2⟩
def PF7 (B : Nat) (l : List Int) (v : Value) (w : World) : Prop := Owns .u8 5 w B v l
def PF8 (B : Nat) (s : Int) (l : List Int) (v : Value) (w : World) : Prop := ∃ vb, v = .agg #[.int .i64 s, vb] ∧ PF7 B l vb w
def PF9 (B : Nat) (s : Int) (l : List Int) (v : Value) (w : World) : Prop := ∃ q vb, v = .slice (some ⟨q, 0, none⟩) 1 1 ∧ B ≤ q ∧ w.heap[q]? = some (.cells #[.int .i64 s, vb] 114 (0, 0)) ∧ PF7 B l vb w
def PF10 (B : Nat) (s : Int) (l : List Int) (pv : Value) (xs : List Value) (n : Nat) (v : Value) (w : World) : Prop :=
  ∃ vb, w.ownsRow 0 114 2 v n (xs ++ [.int .i64 s, vb]) ∧ PF7 B l vb w ∧ (v.ownBlock = pv.ownBlock ∨ ∃ q, v.ownBlock = some q ∧ B ≤ q) ∧ (∀ g, v.ownBlock = some g → g < w.heap.size ∧ room vb ≠ some g)
theorem PF7.below {B : Nat} {l : List Int} {v : Value} {w w' : World} (h : PF7 B l v w) (b : Below w.heap.size w w') : PF7 B l v w' := Owns.below h b
theorem PF7.grown {B : Nat} {l : List Int} {v : Value} {w w' : World} {row : Option Nat} (h : PF7 B l v w) (g : w.grownBy w' row) (hr : ∀ x, row = some x → x < B) : PF7 B l v w' :=
  Owns.grown h g (fun b hb e => by have := (Owns.at_base h b hb).1; have := hr b e.symm; omega)
theorem PF8.below {B : Nat} {s : Int} {l : List Int} {v : Value} {w w' : World} (h : PF8 B s l v w) (b : Below w.heap.size w w') : PF8 B s l v w' := by
  obtain ⟨vb, h1, h2⟩ := h
  exact ⟨vb, h1, h2.below b⟩
theorem PF8.grown {B : Nat} {s : Int} {l : List Int} {v : Value} {w w' : World} {row : Option Nat} (h : PF8 B s l v w) (g : w.grownBy w' row) (hr : ∀ x, row = some x → x < B) : PF8 B s l v w' := by
  obtain ⟨vb, h1, h2⟩ := h
  exact ⟨vb, h1, h2.grown g hr⟩
theorem PF9.below {B : Nat} {s : Int} {l : List Int} {v : Value} {w w' : World} (h : PF9 B s l v w) (b : Below w.heap.size w w') : PF9 B s l v w' := by
  obtain ⟨q, vb, h1, h2, h3, h4⟩ := h
  exact ⟨q, vb, h1, h2, row_keep h3 b, h4.below b⟩
theorem PF9.grown {B : Nat} {s : Int} {l : List Int} {v : Value} {w w' : World} {row : Option Nat} (h : PF9 B s l v w) (g : w.grownBy w' row) (hr : ∀ x, row = some x → x < B) : PF9 B s l v w' := by
  obtain ⟨q, vb, h1, h2, h3, h4⟩ := h
  exact ⟨q, vb, h1, h2, by rw [g.block q (Array.getElem?_eq_some_iff.1 h3).1 (fun e => by have := hr q e.symm; omega)]; exact h3, h4.grown g hr⟩
theorem PF10.below {B : Nat} {s : Int} {l : List Int} {pv : Value} {xs : List Value} {n : Nat} {v : Value} {w w' : World} (h : PF10 B s l pv xs n v w) (b : Below w.heap.size w w') : PF10 B s l pv xs n v w' := by
  obtain ⟨vb, h1, h2, h3, h4⟩ := h
  exact ⟨vb, ownsRow_at h1 (fun g hg => b.block g (h4 g hg).1), h2.below b, h3, fun g hg => ⟨Nat.lt_of_lt_of_le (h4 g hg).1 b.size, (h4 g hg).2⟩⟩
theorem PF10.grown {B : Nat} {s : Int} {l : List Int} {pv : Value} {xs : List Value} {n d : Nat} {v : Value} {w w' : World} (h : PF10 B s l pv xs n v w) (g : w.grownBy w' (some d)) (hd : d < B) (hpd : pv.ownBlock ≠ some d) : PF10 B s l pv xs n v w' := by
  obtain ⟨vb, h1, h2, h3, h4⟩ := h
  refine ⟨vb, ownsRow_at h1 (fun x hx => g.block x (h4 x hx).1 (fun e => ?_)), h2.grown g (fun x hx => by injection hx with hx; omega), h3, fun x hx => ⟨Nat.lt_of_lt_of_le (h4 x hx).1 g.size, (h4 x hx).2⟩⟩
  injection e with e
  subst e
  rcases h3 with h3 | ⟨q, hq, hB⟩
  · exact hpd (by rw [← h3]; exact hx)
  · rw [hx] at hq
    injection hq with hq
    omega
set_option maxRecDepth 100000 in
/-- The cells of a write's append. -/
theorem wrI : (Try.prog.info? 114).map (fun i => (i.zero, i.size, i.bytes)) = some (some (.agg #[.int .i64 0, .slice none 0 0]), 2, 32) := by kernel_rfl
set_option maxRecDepth 100000 in
theorem app_write {B : Nat} {s : Int} {l : List Int} {pv : Value} {xs : List Value} {n : Nat} {w : World} {v : Value} (h : PF9 B s l v w) (ho : w.ownsRow 0 114 2 pv n xs) (hpv : ∀ g, pv.ownBlock = some g → g < B) (hn : n ≤ 2000000) (ty : TypeId) :
    ∃ v' w', (Builtin.append_ #[66, 66] ty #[pv, v]).run Try.prog w = .ok v' w' ∧ w.grownBy w' pv.ownBlock ∧ PF10 B s l pv xs (n + 1) v' w' := by
  obtain ⟨q, vb, rfl, hq, hrow, hvb⟩ := h
  obtain ⟨i, hi, hz, hs, hb⟩ := info_parts wrI
  obtain ⟨v', w', hrun, h1, h2, _, h3⟩ := run_append_own_at (P := Try.prog) (w := w) 0 66 ty 114 i _ 2 32 Try.underlying66 hi hz hs hb (by rfl) (by omega) pv n xs ho ⟨q, 0, none⟩ 1 1 [.int .i64 s, vb] rfl (fun j u hj => by
      rw [show (Addr.mk q 0 none).add j = ⟨q, j, none⟩ by simp [Addr.add] <;> omega]
      rw [cell_of_row w _ _ _ _ _ hrow]
      simpa using hj) (fun u hu => by
      obtain ⟨a, c, e⟩ := Owns.shape hvb
      simp at hu
      rcases hu with rfl | rfl
      · rfl
      · rw [e]; rfl) (by unfold maxLen; omega) (by omega) (Nat.zero_le _)
  refine ⟨v', w', hrun, h2, vb, h1, hvb.grown h2 hpv, ?_, fun g hg => ?_⟩
  · rcases h3 with h3 | h3
    · exact .inl h3
    · refine .inr ⟨_, h3, ?_⟩
      have := (Array.getElem?_eq_some_iff.1 hrow).1
      omega
  · have hlt : g < w'.heap.size := by
      rcases h1.2 with ⟨e, _⟩ | ⟨g', cap, cur, e, _, hh, _⟩
      · rw [e] at hg; cases hg
      · rw [e] at hg
        injection hg with hg
        rw [← hg]
        exact (Array.getElem?_eq_some_iff.1 hh).1
    refine ⟨hlt, fun e => ?_⟩
    have hb2 := Owns.at_base hvb g e
    rcases h3 with h3 | h3
    · have := hpv g (by rw [← h3]; exact hg)
      omega
    · rw [hg] at h3
      injection h3 with h3
      omega
set_option maxRecDepth 100000 in
theorem wp_app_write {o : Oper} {t : Array Value} {ds : List Deferred} {K : Act → World → Prop} {Q : Exit → Act → World → Prop} (dd : Tmp) (hd : o.dst = some dd) (x y : Operand)
    (ho : o.op = .call { callee := .builtin .append, args := #[x, y], argTypes := #[66, 66] }) {B : Nat} {s : Int} {l : List Int} {pv : Value} {xs : List Value} {n : Nat} {w : World} {v : Value} (hx : (Act.mk t ds).eval x = pv) (hy : (Act.mk t ds).eval y = v)
    (h : PF9 B s l v w) (hown : w.ownsRow 0 114 2 pv n xs) (hpv : ∀ g, pv.ownBlock = some g → g < B) (hn : n ≤ 2000000)
    (hK : ∀ v' w', w.grownBy w' pv.ownBlock → PF10 B s l pv xs (n + 1) v' w' → K ⟨t.setIfInBounds dd v', ds⟩ w') : Oper.wp Try.prog o ⟨t, ds⟩ w K Q := by
  obtain ⟨v', w', hr, h1, h2⟩ := app_write h hown hpv hn o.type
  refine wp_of_run dd hd (v := v') (w' := w') ?_ (hK v' w' h1 h2)
  unfold execOp
  simp only [ho, resolve, invoke, builtin, Sem.run_bind, Sem.run_pure, Result.andThen_ok, List.map_toArray, List.map_cons, List.map_nil, hx, hy, hr]
/-- The disk behind the write. -/
theorem DkP.put {w w5 : World} {Z : Nat → Prop} {d kb mb : Nat} {pv pv' kv : Value} {vals pvs : List Value} {st : Dk} (p : DkP w Z d kb mb pv kv vals pvs st) (hz : ∀ k, Z k → k < w.heap.size) (s : Int) (l : List Int) (hfit : fitW st s l = true)
    (hsp : ∀ k, k < w.heap.size → k ≠ d → k ≠ mb → some k ≠ pv.ownBlock → w5.heap[k]? = w.heap[k]?) (hos : w5.os = w.os ∧ w5.tape = w.tape ∧ w5.output = w.output) (hsz : w.heap.size ≤ w5.heap.size)
    (row : w5.heap[d]? = some (.cells #[.bool st.off, .int .i64 st.armed, kv, .int .i64 st.size, .slice (some ⟨kb, 0, none⟩) st.kept.length st.kept.length, pv', .map (some mb), .int .i64 (st.writes + 1), .int .i64 st.reads] 69 (0, 0)))
    (hmap : MapAt w5 mb (fun t => if t = s then some ((st.pend.length : Nat) : Int) else lastOf st.pend t))
    (hown : PF10 w.heap.size s l pv (pendC st.pend pvs) (st.pend.length + 1) pv' w5) (hfew : st.pend.length + 1 ≤ 1000000) (hwr : st.writes + 1 ≤ 4611686018427387904) :
    ∃ Z', DkIn w5 Z' d { st with pend := st.pend ++ [(s, l)], writes := st.writes + 1 } ∧ Tnd Z Z' w w5 := by
  obtain ⟨vb, h1, h2, h3, h4⟩ := hown
  have hf : 0 ≤ s ∧ s < st.kept.length ∧ l.length = st.size := by
    unfold fitW at hfit
    simp only [Bool.and_eq_true, decide_eq_true_eq] at hfit
    exact ⟨hfit.1.1, hfit.1.2, hfit.2⟩
  have hl0 : 0 < l.length := by have := p.ok.size; omega
  obtain ⟨g, c, hv, hrm, hrd, hB, hlt⟩ := Owns.slc h2 hl0
  have hZm := p.z
  have hdl := hz d (hZm d (.inl rfl))
  have hkl := hz kb (hZm kb (.inr (.inl rfl)))
  have hml := hz mb (hZm mb (.inr (.inr (.inl rfl))))
  have hpl : ∀ x, pv.ownBlock = some x → x < w.heap.size := fun x hx => hz x (hZm x (.inr (.inr (.inr hx))))
  have hmut : ∀ x, Z x → ¬ MutD d kb mb pv x → w5.heap[x]? = w.heap[x]? := fun x hx hm => hsp x (hz x hx) (fun e => hm (.inl e)) (fun e => hm (.inr (.inr (.inl e)))) (fun e => hm (.inr (.inr (.inr e.symm))))
  have hM : ∀ x, Z x → ¬ MutD d kb mb pv x → ¬ MutD d kb mb pv' x := fun x hx hm h => by
    rcases h with h | h | h | h
    · exact hm (.inl h)
    · exact hm (.inr (.inl h))
    · exact hm (.inr (.inr (.inl h)))
    · rcases h3 with h3 | ⟨q, hq, hqB⟩
      · exact hm (.inr (.inr (.inr (by rw [← h3]; exact h))))
      · rw [h] at hq
        injection hq with hq
        have := hz x hx
        omega
  refine ⟨fun k => Z k ∨ (w.heap.size ≤ k ∧ k < w5.heap.size), ⟨fun k hk => ?_, kb, mb, pv', kv, vals, pvs ++ [vb], row, ?_, ?_, ?_, ?_, ?_, ?_, p.ne, ?_, ?_, ?_⟩, hos.1, hos.2.1, hos.2.2, hsz, fun k hk hzk => ?_, fun k hk => hk.imp id (·.1)⟩
  · rcases hk with hk | hk
    · have := hz k hk; omega
    · exact hk.2
  · rw [hsp kb hkl p.ne.1.symm p.ne.2.2 (fun e => (p.rm kb e.symm).2.1 rfl)]
    exact p.krow
  · exact p.kvals.imp fun v l h => h.at hmut hM (fun _ h => .inl h)
  · have hlen : pvs.length = st.pend.length := p.pvals.1
    show w5.ownsRow 0 _ 2 pv' (st.pend ++ [(s, l)]).length (pendC (st.pend ++ [(s, l)]) (pvs ++ [vb]))
    rw [pendC_snoc s l vb hlen, List.length_append]
    exact h1
  · refine All2.snoc (p.pvals.imp fun v l h => h.at hmut hM (fun _ h => .inl h)) ⟨g, 0, l.length, c, hv, hrd, hl0, fun hm => ?_, .inr ⟨hB, hlt⟩⟩
    rcases hm with hm | hm | hm | hm
    · omega
    · omega
    · omega
    · exact (h4 g hm).2 hrm
  · exact hmap.congr (fun t => (lastOf_snoc st.pend s l t).symm)
  · exact p.keep.at hmut hM (fun _ h => .inl h)
  · intro x hx
    rcases h3 with h3 | ⟨q, hq, hqB⟩
    · exact p.rm x (by rw [← h3]; exact hx)
    · rw [hx] at hq
      injection hq with hq
      omega
  · intro x hx
    rcases hx with hx | hx | hx | hx
    · exact .inl (hZm x (.inl hx))
    · exact .inl (hZm x (.inr (.inl hx)))
    · exact .inl (hZm x (.inr (.inr (.inl hx))))
    · rcases h3 with h3 | ⟨q, hq, hqB⟩
      · exact .inl (hZm x (.inr (.inr (.inr (by rw [← h3]; exact hx)))))
      · have hxq : x = q := by rw [hx] at hq; injection hq
        exact .inr ⟨by omega, (h4 x hx).1⟩
  · refine ⟨p.ok.size, p.ok.n, p.ok.kept, fun q hq => ?_, p.ok.armed, ?_, ⟨by have := p.ok.writes.1; show 0 ≤ st.writes + 1; omega, hwr⟩, p.ok.reads⟩
    · rcases List.mem_append.1 hq with h | h
      · exact p.ok.pend q h
      · simp at h
        subst h
        exact ⟨hf.2.2, hf.1, hf.2.1⟩
    · show (st.pend ++ [(s, l)]).length ≤ 1000000
      rw [List.length_append]
      exact hfew
  · exact hsp k hk (fun e => hzk (by rw [e]; exact hZm d (.inl rfl))) (fun e => hzk (by rw [e]; exact hZm mb (.inr (.inr (.inl rfl))))) (fun e => hzk (hZm k (.inr (.inr (.inr e.symm)))))
end Go.Proofs.Ytcbnebcooiagmaa
