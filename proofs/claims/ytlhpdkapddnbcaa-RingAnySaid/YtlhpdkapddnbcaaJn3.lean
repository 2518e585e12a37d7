/- disk: what writes a disk's own blocks: settle, Cut, Flush. disk: the power, Cut, Flush, New. disk: goes, bytes, Read. disk: Bytes, Shape, Reads. Plain laws on sums of bytes: a linear register of 32 bits. No program in sight. Rows of bytes. No program in sight. -/
import Derived.Test.YtlhpdkapddnbcaaJn2
import Derived.RegionTactic
import Derived.OwnWalk
import Derived.Carry
import Derived.BigQuiet
import Derived.Deep.QuietTactic
import Derived.Test.YtlhpdkapddnbcaaJn1
namespace Go.Proofs.Ytlhpdkapddnbcaa
open Go.RowKit
theorem cellsD {w : World} {b T : Nat} {x0 x1 x2 x3 x4 x5 x6 x7 x8 : Value} (h : w.heap[b]? = some (.cells #[x0, x1, x2, x3, x4, x5, x6, x7, x8] T (0, 0))) : w.cell? ⟨b, 0, none⟩ = some x0 ∧ w.cell? ⟨b, 1, none⟩ = some x1 ∧ w.cell? ⟨b, 2, none⟩ = some x2 ∧ w.cell? ⟨b, 3, none⟩ = some x3 ∧ w.cell? ⟨b, 4, none⟩ = some x4 ∧ w.cell? ⟨b, 5, none⟩ = some x5 ∧ w.cell? ⟨b, 6, none⟩ = some x6 ∧ w.cell? ⟨b, 7, none⟩ = some x7 ∧ w.cell? ⟨b, 8, none⟩ = some x8 ∧ ∀ i, w.frozen? ⟨b, i, none⟩ = false := by
  refine ⟨?_, ?_, ?_, ?_, ?_, ?_, ?_, ?_, ?_, fun i => frozen_of_row w b i _ _ h⟩ <;> simp [World.cell?, h]
theorem owns_shape {w : World} {e : TypeId} {size n : Nat} {v : Value} {xs : List Value} (h : w.ownsRow 0 e size v n xs) : ∃ a c, v = .slice a n c := by
  rcases h.2 with ⟨h1, h2⟩ | ⟨g, cap, cur, hv, _⟩
  · exact ⟨none, 0, by rw [h1, h2]⟩
  · exact ⟨_, _, hv⟩
theorem grown_at {w w' : World} {h k : Nat} {o : Obj} (ho : w.heap[k]? = some o) (hg : w.grownBy w' (some h)) (hk : k ≠ h) : w'.heap[k]? = some o := by
  rw [hg.block k (Array.getElem?_eq_some_iff.1 ho).1 (fun e => hk (Option.some.inj e))]; exact ho
theorem grown_put {w wr w2 : World} {kb : Nat} (h : w.grownBy wr (some kb)) (hb : Below wr.heap.size wr w2) (kb' sn : Nat) (v : Value) (hk : kb' = kb := by rfl) : w.grownBy (w2.setCell ⟨kb', sn, none⟩ v).drew (some kb) := by
  subst hk
  refine ⟨hb.os.trans h.os, hb.tape.trans h.tape, hb.output.trans h.output, Nat.le_trans h.size (by have := hb.size; simpa [World.drew] using this), fun x hx hne => ?_⟩
  show (w2.setCell ⟨kb', sn, none⟩ v).heap[x]? = _
  rw [heap_setCell_other w2 ⟨kb', sn, none⟩ x _ (fun e => hne (by rw [show x = kb' from e])), hb.block x (Nat.lt_of_lt_of_le hx h.size)]
  exact h.block x hx hne
theorem pendC_at : ∀ {p : List (Int × List Int)} {vs : List Value} {k : Nat} {v : Value} {x : Int × List Int}, vs[k]? = some v → p[k]? = some x → (pendC p vs)[2 * k]? = some (.int .i64 x.1) ∧ (pendC p vs)[2 * k + 1]? = some v
  | [], _, k, v, x, _, h => by simp at h
  | _ :: _, [], k, v, x, h, _ => by simp at h
  | p :: r, u :: t, 0, v, x, h1, h2 => by
    simp at h1 h2
    subst h1 h2
    exact ⟨rfl, rfl⟩
  | p :: r, u :: t, k + 1, v, x, h1, h2 => by
    have := pendC_at (p := r) (vs := t) (k := k) (by simpa using h1) (by simpa using h2)
    rw [show 2 * (k + 1) = 2 * k + 1 + 1 by omega]
    exact this
theorem pend_cells {w : World} {pv : Value} {p : List (Int × List Int)} {vs : List Value} {k : Nat} {v : Value} {x : Int × List Int} (h : w.ownsRow 0 104 2 pv p.length (pendC p vs)) (hv : vs[k]? = some v) (hx : p[k]? = some x) (hk : k < p.length) :
    ∃ g, (∃ c, pv = .slice (some ⟨g, 0, none⟩) p.length c) ∧ w.cell? ⟨g, 2 * k, none⟩ = some (.int .i64 x.1) ∧ w.cell? ⟨g, 2 * k + 1, none⟩ = some v := by
  obtain ⟨h1, h2⟩ := pendC_at hv hx
  rcases h.2 with ⟨h3, h4⟩ | ⟨g, cap, cur, hpv, h0, hh, h5⟩
  · omega
  · subst hpv
    exact ⟨g, ⟨cap, rfl⟩, by rw [h.cellAt (2 * k) (by omega)]; exact h1, by rw [h.cellAt (2 * k + 1) (by omega)]; exact h2⟩
set_option maxRecDepth 100000 in
theorem flush1_any (k : Int) (w : World) : Calls Try.prog 56 #[.int .i64 k] w fun e w' => e = .returned (.bool true) ∧ w = w' := by
  go_enter Try.func56, Try.ntmps56
  go_wp2
  go_ret
  exact ⟨rfl, rfl⟩
set_option linter.unusedSimpArgs false in
set_option linter.unusedVariables false in
set_option maxRecDepth 100000 in
set_option maxHeartbeats 2000000 in
theorem settle_all (Z : Nat → Prop) (d kb mb : Nat) (pv kv : Value) (vals pvs : List Value) (st : Dk) (w : World) (p : DkP w Z d kb mb pv kv vals pvs st) (hz : ∀ k, Z k → k < w.heap.size) :
    Calls Try.prog 45 #[.pointer (some ⟨d, 0, none⟩), (.func (.func 56) #[] #[])] w fun e w' => e = .returned (.tuple #[]) ∧ DkIn w' Z d { st with kept := settleK (fun _ => true) 0 st.pend st.kept, pend := [] } ∧ Tnd Z Z w w' := by
  obtain ⟨c0, c1, c2, c3, c4, c5, c6, c7, c8, cf⟩ := cellsD p.row
  have P := Lib.hid p
  have hpl : ∃ a c, pv = .slice a st.pend.length c := owns_shape p.prow
  obtain ⟨pa, pc, hpv⟩ := hpl
  have hfew := p.ok.few
  have hne := p.ne
  have hrm := p.rm
  have hZm := p.z
  obtain ⟨n, hn⟩ : ∃ n, st.pend.length = n := ⟨_, rfl⟩
  have HN := Lib.hid hn
  rw [hn] at hpv hfew
  have HPV := Lib.hid hpv
  rw [hpv] at c5
  clear p hpv hn
  go_enter Try.func45, Try.ntmps45
  go_wp2_with fail
  go_loopw [11] (fun i wr => ∃ (k : Nat) (vals' : List Value) (kept' : List (List Int)), k ≤ n ∧ i = .int .i64 k ∧ wr.heap[kb]? = some (.cells vals'.toArray 36 (0, 0)) ∧ All2 (SecV wr (MutD d kb mb pv) Z st.size) vals' kept' ∧ Hid (settleK (fun _ => true) k (st.pend.drop k) kept' = settleK (fun _ => true) 0 st.pend st.kept) ∧ w.grownBy wr (some kb) ∧ kept'.length = st.kept.length ∧ (∀ l ∈ kept', l.length = st.size)) (fun i _ => n - (intOf i).toNat)
  case atStart => exact ⟨0, vals, st.kept, by omega, rfl, P.out.krow, P.out.kvals, rfl, World.grownBy.refl _ _, rfl, P.out.ok.kept⟩
  case round =>
    clear c0 c1 c2 c3 c4 c5 c6 c7 c8 cf
    obtain ⟨k, vals', kept', hk, rfl, hkr, hkv, HS, hg, hkl, hks⟩ := hrel
    have hrow := grown_at P.out.row hg hne.1
    obtain ⟨c0, c1, c2, c3, c4, c5, c6, c7, c8, cf⟩ := cellsD hrow
    have HKR := Lib.hid hkr
    have HKV := Lib.hid hkv
    have HG := Lib.hid hg
    have HKL := Lib.hid hkl
    have HKS := Lib.hid hks
    have hkf : ∀ i, wr.frozen? ⟨kb, i, none⟩ = false := fun i => frozen_of_row wr _ i _ _ hkr
    clear hkr hkv hg hkl hks hrow
    by_cases hp : k < n
    · obtain ⟨⟨s, b⟩, hpk⟩ : ∃ x, st.pend[k]? = some x := ⟨_, List.getElem?_eq_getElem (by rw [HN.out]; exact hp)⟩
      obtain ⟨v, hvk, hv⟩ := P.out.pvals.get hpk
      obtain ⟨g, ga, hgc1, hgc2⟩ := pend_cells P.out.prow hvk hpk (by rw [HN.out]; exact hp)
      obtain ⟨b9, o9, n9, c9, rfl, hr9, hn9, hm9, hz9⟩ := hv
      have hpok := P.out.ok.pend _ (List.mem_of_getElem? hpk)
      obtain ⟨hp1, hp2, hp3⟩ := hpok
      obtain ⟨sn, rfl⟩ := Int.eq_ofNat_of_zero_le (show 0 ≤ s from hp2)
      have hdr : st.pend.drop k = ((sn : Int), b) :: st.pend.drop (k + 1) := by
        rw [List.drop_eq_getElem_cons (by rw [HN.out]; exact hp)]
        congr 1
        have := List.getElem?_eq_getElem (l := st.pend) (i := k) (by rw [HN.out]; exact hp)
        rw [this] at hpk
        injection hpk
      obtain ⟨cg, hpv'⟩ := ga
      rw [HN.out, HPV.out] at hpv'
      injection hpv' with q1 q2 q3
      subst q1 q3
      have hgd := hrm g (by rw [HPV.out]; rfl)
      have hgw : wr.cell? ⟨g, k * 2, none⟩ = some (.int .i64 (sn : Int)) := by
        rw [show k * 2 = 2 * k by omega]
        exact HG.out.cell hgc1 (fun e => hgd.2.1 (Option.some.inj e))
      have hgw2 : wr.cell? ⟨g, k * 2 + 1, none⟩ = some (.slice (some ⟨b9, o9, none⟩) n9 c9) := by
        rw [show k * 2 + 1 = 2 * k + 1 by omega]
        exact HG.out.cell hgc2 (fun e => hgd.2.1 (Option.some.inj e))
      have HDR := Lib.hid hdr
      have HPK := Lib.hid hpk
      have HP1 := Lib.hid hp1
      have HR9 := Lib.hid (RdAt.at (w' := wr) hr9 (HG.out.block b9 (hz b9 hz9) (fun e => hm9 (.inr (.inl (Option.some.inj e))))))
      have hsnl : sn < st.kept.length := by omega
      have hsn2 : sn < kept'.length := by rw [HKL.out]; exact hsnl
      have hkb1 : kb < wr.heap.size := (Array.getElem?_eq_some_iff.1 HKR.out).1
      have hd1 : d < wr.heap.size := Nat.lt_of_lt_of_le (hz d (hZm d (.inl rfl))) HG.out.size
      have hkvlen := HKV.out.1
      have HVL := Lib.hid hkvlen
      clear hgc1 hgc2 hdr hpk hp1 hvk hr9 hkvlen hp2
      go_wp2_with fail
      obtain ⟨w2, hw2⟩ : ∃ w2, wr.alloc (.cells #[.int .i64 (sn : Int), .slice (some ⟨b9, o9, none⟩) n9 c9] 104) = w2 := ⟨_, rfl⟩
      have hb2 : Below wr.heap.size wr w2 := by rw [← hw2]; exact (Below.refl _ _).alloc (Nat.le_refl _) _
      have ht5 : w2.heap[wr.heap.size]? = some (.cells #[.int .i64 (sn : Int), .slice (some ⟨b9, o9, none⟩) n9 c9] 104 (0, 0)) := by rw [← hw2]; exact heap_alloc_new _ _
      rw [hw2]
      clear hw2
      have t50 : w2.cell? ⟨wr.heap.size, 0, none⟩ = some (.int .i64 (sn : Int)) := by rw [cell_of_row w2 _ _ _ _ _ ht5]; rfl
      have t51 : w2.cell? ⟨wr.heap.size, 1, none⟩ = some (.slice (some ⟨b9, o9, none⟩) n9 c9) := by rw [cell_of_row w2 _ _ _ _ _ ht5]; rfl
      have hrow2 := row_keep (grown_at P.out.row HG.out hne.1) hb2
      have hkr2 := row_keep HKR.out hb2
      obtain ⟨y0, y1, y2, y3, y4, y5, y6, y7, y8, yf⟩ := cellsD hrow2
      have hkf2 : ∀ i, w2.frozen? ⟨kb, i, none⟩ = false := fun i => frozen_of_row w2 _ i _ _ hkr2
      have hkc2 : w2.cell? ⟨kb, sn, none⟩ = some (vals'[sn]'(by rw [HVL.out]; exact hsn2)) := by
        rw [cell_of_row w2 _ _ _ _ _ hkr2]
        simp [show sn < vals'.length by rw [HVL.out]; exact hsn2]
      have HKR2 := Lib.hid hkr2
      have HB2 := Lib.hid hb2
      have htn : wr.heap.size ≠ kb := by omega
      obtain ⟨tb, htb⟩ : ∃ tb, wr.heap.size = tb := ⟨_, rfl⟩
      rw [htb] at t50 t51 htn
      rw [htb]
      clear c0 c1 c2 c3 c4 c5 c6 c7 c8 cf hkf ht5 hrow2 hkr2 hb2 hgw hgw2 htb
      refine (flush1_any k _).mono ?_
      rintro e w3 ⟨rfl, rfl⟩
      go_wp2_with fail
      go_region
      go_wp2_with fail
      have HNX : Hid (settleK (fun _ => true) (k + 1) (st.pend.drop (k + 1)) (kept'.set sn b) = settleK (fun _ => true) 0 st.pend st.kept) := by
        show _ = _
        rw [← HS.out, HDR.out, settleK]
        rfl
      have hoth : ∀ x, Z x → ¬ MutD d kb mb pv x → (w2.setCell ⟨kb, sn, none⟩ (.slice (some ⟨b9, o9, none⟩) n9 c9)).drew.heap[x]? = wr.heap[x]? := by
        intro x hx hm
        show (w2.setCell ⟨kb, sn, none⟩ _).heap[x]? = _
        rw [heap_setCell_other w2 ⟨kb, sn, none⟩ x _ (fun e => hm (.inr (.inl e))), HB2.out.block x (Nat.lt_of_lt_of_le (hz x hx) HG.out.size)]
      have hk3 : (w2.setCell ⟨kb, sn, none⟩ (.slice (some ⟨b9, o9, none⟩) n9 c9)).drew.heap[kb]? = some (.cells (vals'.set sn (.slice (some ⟨b9, o9, none⟩) n9 c9)).toArray 36 (0, 0)) := by
        show (w2.setCell ⟨kb, sn, none⟩ _).heap[kb]? = _
        rw [heap_setCell_same w2 kb sn _ _ _ HKR2.out]
        simp
      have hv3 : All2 (SecV (w2.setCell ⟨kb, sn, none⟩ (.slice (some ⟨b9, o9, none⟩) n9 c9)).drew (MutD d kb mb pv) Z st.size) (vals'.set sn (.slice (some ⟨b9, o9, none⟩) n9 c9)) (kept'.set sn b) :=
        (HKV.out.imp fun v l h => h.at hoth (fun _ _ h => h) (fun _ h => h)).set sn (.inr ⟨b9, o9, n9, c9, rfl, HR9.out.at (hoth b9 hz9 hm9), hn9, hm9, hz9⟩)
      have hg3 : w.grownBy (w2.setCell ⟨kb, sn, none⟩ (.slice (some ⟨b9, o9, none⟩) n9 c9)).drew (some kb) := grown_put HG.out HB2.out kb sn _
      have hl3 : ∀ l ∈ kept'.set sn b, l.length = st.size := fun l hl => by
        rcases List.mem_or_eq_of_mem_set hl with h | h
        · exact HKS.out l h
        · rw [h]; exact HP1.out
      have HK3 := Lib.hid hk3
      have HV3 := Lib.hid hv3
      have HG3 := Lib.hid hg3
      have HL3 := Lib.hid hl3
      clear hk3 hv3 hg3 hl3 hoth
      go_roundw
      case rel => exact ⟨k + 1, vals'.set sn (.slice (some ⟨b9, o9, none⟩) n9 c9), kept'.set sn b, by omega, by go_num, HK3.out, HV3.out, HNX, HG3.out, by rw [List.length_set]; exact HKL.out, HL3.out⟩
      case measure => simp [intOf] <;> omega

    · obtain rfl : k = n := by omega
      have hK : settleK (fun _ => true) 0 st.pend st.kept = kept' := by
        rw [← HS.out, List.drop_of_length_le (by rw [HN.out]; exact Nat.le_refl _)]
        rfl
      have HK := Lib.hid hK
      have hdlt : d < wr.heap.size := Nat.lt_of_lt_of_le (hz d (hZm d (.inl rfl))) HG.out.size
      have hm1 : MapAt (wr.setCell ⟨d, 5, none⟩ (.slice none 0 0)) mb (lastOf st.pend) := P.out.map.at (by
        rw [heap_setCell_other wr ⟨d, 5, none⟩ mb _ (fun e => hne.2.1 e.symm)]
        exact HG.out.block mb (hz mb (hZm mb (.inr (.inr (.inl rfl))))) (fun e => hne.2.2 (Option.some.inj e).symm))
      obtain ⟨vc, w5, hrun, hmap5, hg5⟩ := map_clear hm1 0
      have HM5 := Lib.hid hmap5
      have HG5 := Lib.hid hg5
      have hrow := grown_at P.out.row HG.out hne.1
      have HROW := Lib.hid hrow
      clear hK hm1 hmap5 hg5 hrow
      go_wp2_with fail
      go_end0
      rw [HK.out]
      have hoth : ∀ x, Z x → ¬ MutD d kb mb pv x → w5.heap[x]? = wr.heap[x]? := fun x hx hm => by
        rw [HG5.out.block x (by simp; exact Nat.lt_of_lt_of_le (hz x hx) HG.out.size) (fun e => hm (.inr (.inr (.inl (Option.some.inj e))))), heap_setCell_other wr ⟨d, 5, none⟩ x _ (fun e => hm (.inl e))]
      have hM : ∀ x, Z x → ¬ MutD d kb mb pv x → ¬ MutD d kb mb (.slice none 0 0) x := fun x _ hm h => by
        rcases h with h | h | h | h
        · exact hm (.inl h)
        · exact hm (.inr (.inl h))
        · exact hm (.inr (.inr (.inl h)))
        · cases h
      refine ⟨rfl, ⟨fun x hx => ?_, kb, mb, .slice none 0 0, kv, vals', [], ?_⟩, ⟨HG5.out.os.trans HG.out.os, HG5.out.tape.trans HG.out.tape, HG5.out.output.trans HG.out.output, ?_, fun x hx hzx => ?_, fun x h => .inl h⟩⟩
      · have := HG5.out.size
        simp at this
        exact Nat.lt_of_lt_of_le (hz x hx) (Nat.le_trans HG.out.size this)
      · refine ⟨?_, ?_, HKV.out.imp fun v l h => h.at hoth hM (fun _ h => h), World.ownsRow_nil _ _ _ _, All2.nil _, HM5.out.congr (fun _ => rfl), ?_, hne, (fun g hg => by cases hg), ?_, ?_⟩
        · rw [HG5.out.block d (by simpa using hdlt) (fun e => hne.2.1 (Option.some.inj e)), heap_setCell_same wr d 5 _ _ _ HROW.out]
          simp [HKL.out]
        · rw [HG5.out.block kb (by simpa using (Array.getElem?_eq_some_iff.1 HKR.out).1) (fun e => hne.2.2 (Option.some.inj e)), heap_setCell_other wr ⟨d, 5, none⟩ kb _ (fun e => hne.1 e.symm)]
          exact HKR.out
        · exact (P.out.keep.at (w' := wr) (fun x hx hm => HG.out.block x (hz x hx) (fun e => hm (.inr (.inl (Option.some.inj e))))) (fun _ _ h => h) (fun _ h => h)).at hoth hM (fun _ h => h)
        · intro x h
          rcases h with h | h | h | h
          · exact hZm x (.inl h)
          · exact hZm x (.inr (.inl h))
          · exact hZm x (.inr (.inr (.inl h)))
          · cases h
        · exact ⟨P.out.ok.size, by show 1 ≤ kept'.length ∧ kept'.length ≤ 65536; rw [HKL.out]; exact P.out.ok.n, HKS.out, (fun q hq => by cases hq), P.out.ok.armed, (by simp), P.out.ok.writes, P.out.ok.reads⟩
      · have := HG5.out.size
        simp at this
        exact Nat.le_trans HG.out.size this
      · have h1 : x ≠ d := fun e => hzx (by rw [e]; exact hZm d (.inl rfl))
        have h2 : x ≠ kb := fun e => hzx (by rw [e]; exact hZm kb (.inr (.inl rfl)))
        have h3 : x ≠ mb := fun e => hzx (by rw [e]; exact hZm mb (.inr (.inr (.inl rfl))))
        rw [HG5.out.block x (by simp; exact Nat.lt_of_lt_of_le hx HG.out.size) (fun e => h3 (Option.some.inj e)), heap_setCell_other wr ⟨d, 5, none⟩ x _ h1]
        exact HG.out.block x hx (fun e => h2 (Option.some.inj e))
theorem RdB.kept {w w' : World} {a : Option Addr} {n c : Nat} {l : List Bool} (r : RdB w a n c l) (h : ∀ x, a = some x → 0 < n → w'.heap[x.block]? = w.heap[x.block]?) : RdB w' a n c l :=
  ⟨r.len, r.cap, r.max, fun i hi => by
    obtain ⟨b, o, e, hc⟩ := r.cell i hi
    exact ⟨b, o, e, by rw [← hc]; exact World.cell?_of_block (a := ⟨b, o + i, none⟩) (h ⟨b, o, none⟩ e (by omega))⟩, r.void⟩
set_option maxRecDepth 100000 in
theorem cut1_any (q : Nat) (ka : Option Addr) (kn kc : Nat) (kl : List Bool) (k : Nat) (w : World) (hq : w.heap[q]? = some (.cells #[.slice ka kn kc] 38 (0, 0))) (hr : RdB w ka kn kc kl) :
    Calls Try.prog 46 #[.int .i64 k, .pointer (some ⟨q, 0, none⟩)] w fun e w' => e = .returned (.bool (kl.getD k false)) ∧ w = w' := by
  have cq : w.cell? ⟨q, 0, none⟩ = some (.slice ka kn kc) := by rw [cell_of_row w _ _ _ _ _ hq]; rfl
  have hlen := hr.len
  by_cases hk : k < kn
  · obtain ⟨b, o, rfl, hc⟩ := hr.cell k hk
    have d1 : decide ((k : Int) < kn) = true := decide_eq_true (by omega)
    have d2 : decide (k < kn) = true := decide_eq_true hk
    clear hr hq hlen
    go_enter Try.func46, Try.ntmps46
    go_wp2
    go_ret
    exact ⟨rfl, rfl⟩
  · have hf : kl.getD k false = false := by
      rw [List.getD_eq_getElem?_getD, List.getElem?_eq_none (by omega)]; rfl
    rw [hf]
    have d1 : decide ((k : Int) < kn) = false := decide_eq_false (by omega)
    have d2 : decide (k < kn) = false := decide_eq_false hk
    clear hr hq hlen hf
    go_enter Try.func46, Try.ntmps46
    go_wp2
    go_ret
    exact ⟨rfl, rfl⟩
set_option linter.unusedSimpArgs false in
set_option linter.unusedVariables false in
set_option maxRecDepth 100000 in
set_option maxHeartbeats 2000000 in
theorem settle_cut (Z : Nat → Prop) (d kb mb : Nat) (pv kv : Value) (vals pvs : List Value) (st : Dk) (w : World) (p : DkP w Z d kb mb pv kv vals pvs st) (hz : ∀ k, Z k → k < w.heap.size) (q : Nat) (ka : Option Addr) (kn kc : Nat) (kl : List Bool) (hq : w.heap[q]? = some (.cells #[.slice ka kn kc] 38 (0, 0))) (kq : q ≠ kb) (hkr : RdB w ka kn kc kl) (hkz : ∀ x, ka = some x → 0 < kn → x.block < w.heap.size) (hkk : ∀ x, ka = some x → 0 < kn → x.block ≠ kb) :
    Calls Try.prog 45 #[.pointer (some ⟨d, 0, none⟩), (.func (.func 46) #[] #[.pointer (some ⟨q, 0, none⟩)])] w fun e w' => e = .returned (.tuple #[]) ∧ DkIn w' Z d { st with kept := settleK (fun i => kl.getD i false) 0 st.pend st.kept, pend := [] } ∧ Tnd Z Z w w' := by
  obtain ⟨c0, c1, c2, c3, c4, c5, c6, c7, c8, cf⟩ := cellsD p.row
  have P := Lib.hid p
  have hpl : ∃ a c, pv = .slice a st.pend.length c := owns_shape p.prow
  obtain ⟨pa, pc, hpv⟩ := hpl
  have hfew := p.ok.few
  have hne := p.ne
  have hrm := p.rm
  have hZm := p.z
  obtain ⟨n, hn⟩ : ∃ n, st.pend.length = n := ⟨_, rfl⟩
  have HN := Lib.hid hn
  rw [hn] at hpv hfew
  have HPV := Lib.hid hpv
  rw [hpv] at c5
  clear p hpv hn
  go_enter Try.func45, Try.ntmps45
  go_wp2_with fail
  go_loopw [11] (fun i wr => ∃ (k : Nat) (vals' : List Value) (kept' : List (List Int)), k ≤ n ∧ i = .int .i64 k ∧ wr.heap[kb]? = some (.cells vals'.toArray 36 (0, 0)) ∧ All2 (SecV wr (MutD d kb mb pv) Z st.size) vals' kept' ∧ Hid (settleK (fun i => kl.getD i false) k (st.pend.drop k) kept' = settleK (fun i => kl.getD i false) 0 st.pend st.kept) ∧ w.grownBy wr (some kb) ∧ kept'.length = st.kept.length ∧ (∀ l ∈ kept', l.length = st.size)) (fun i _ => n - (intOf i).toNat)
  case atStart => exact ⟨0, vals, st.kept, by omega, rfl, P.out.krow, P.out.kvals, rfl, World.grownBy.refl _ _, rfl, P.out.ok.kept⟩
  case round =>
    clear c0 c1 c2 c3 c4 c5 c6 c7 c8 cf
    obtain ⟨k, vals', kept', hk, rfl, hkr, hkv, HS, hg, hkl, hks⟩ := hrel
    have hrow := grown_at P.out.row hg hne.1
    obtain ⟨c0, c1, c2, c3, c4, c5, c6, c7, c8, cf⟩ := cellsD hrow
    have HKR := Lib.hid hkr
    have HKV := Lib.hid hkv
    have HG := Lib.hid hg
    have HKL := Lib.hid hkl
    have HKS := Lib.hid hks
    have hkf : ∀ i, wr.frozen? ⟨kb, i, none⟩ = false := fun i => frozen_of_row wr _ i _ _ hkr
    clear hkr hkv hg hkl hks hrow
    by_cases hp : k < n
    · obtain ⟨⟨s, b⟩, hpk⟩ : ∃ x, st.pend[k]? = some x := ⟨_, List.getElem?_eq_getElem (by rw [HN.out]; exact hp)⟩
      obtain ⟨v, hvk, hv⟩ := P.out.pvals.get hpk
      obtain ⟨g, ga, hgc1, hgc2⟩ := pend_cells P.out.prow hvk hpk (by rw [HN.out]; exact hp)
      obtain ⟨b9, o9, n9, c9, rfl, hr9, hn9, hm9, hz9⟩ := hv
      have hpok := P.out.ok.pend _ (List.mem_of_getElem? hpk)
      obtain ⟨hp1, hp2, hp3⟩ := hpok
      obtain ⟨sn, rfl⟩ := Int.eq_ofNat_of_zero_le (show 0 ≤ s from hp2)
      have hdr : st.pend.drop k = ((sn : Int), b) :: st.pend.drop (k + 1) := by
        rw [List.drop_eq_getElem_cons (by rw [HN.out]; exact hp)]
        congr 1
        have := List.getElem?_eq_getElem (l := st.pend) (i := k) (by rw [HN.out]; exact hp)
        rw [this] at hpk
        injection hpk
      obtain ⟨cg, hpv'⟩ := ga
      rw [HN.out, HPV.out] at hpv'
      injection hpv' with q1 q2 q3
      subst q1 q3
      have hgd := hrm g (by rw [HPV.out]; rfl)
      have hgw : wr.cell? ⟨g, k * 2, none⟩ = some (.int .i64 (sn : Int)) := by
        rw [show k * 2 = 2 * k by omega]
        exact HG.out.cell hgc1 (fun e => hgd.2.1 (Option.some.inj e))
      have hgw2 : wr.cell? ⟨g, k * 2 + 1, none⟩ = some (.slice (some ⟨b9, o9, none⟩) n9 c9) := by
        rw [show k * 2 + 1 = 2 * k + 1 by omega]
        exact HG.out.cell hgc2 (fun e => hgd.2.1 (Option.some.inj e))
      have HDR := Lib.hid hdr
      have HPK := Lib.hid hpk
      have HP1 := Lib.hid hp1
      have HR9 := Lib.hid (RdAt.at (w' := wr) hr9 (HG.out.block b9 (hz b9 hz9) (fun e => hm9 (.inr (.inl (Option.some.inj e))))))
      have hsnl : sn < st.kept.length := by omega
      have hsn2 : sn < kept'.length := by rw [HKL.out]; exact hsnl
      have hkb1 : kb < wr.heap.size := (Array.getElem?_eq_some_iff.1 HKR.out).1
      have hd1 : d < wr.heap.size := Nat.lt_of_lt_of_le (hz d (hZm d (.inl rfl))) HG.out.size
      have hkvlen := HKV.out.1
      have HVL := Lib.hid hkvlen
      clear hgc1 hgc2 hdr hpk hp1 hvk hr9 hkvlen hp2
      go_wp2_with fail
      obtain ⟨w2, hw2⟩ : ∃ w2, wr.alloc (.cells #[.int .i64 (sn : Int), .slice (some ⟨b9, o9, none⟩) n9 c9] 104) = w2 := ⟨_, rfl⟩
      have hb2 : Below wr.heap.size wr w2 := by rw [← hw2]; exact (Below.refl _ _).alloc (Nat.le_refl _) _
      have ht5 : w2.heap[wr.heap.size]? = some (.cells #[.int .i64 (sn : Int), .slice (some ⟨b9, o9, none⟩) n9 c9] 104 (0, 0)) := by rw [← hw2]; exact heap_alloc_new _ _
      rw [hw2]
      clear hw2
      have t50 : w2.cell? ⟨wr.heap.size, 0, none⟩ = some (.int .i64 (sn : Int)) := by rw [cell_of_row w2 _ _ _ _ _ ht5]; rfl
      have t51 : w2.cell? ⟨wr.heap.size, 1, none⟩ = some (.slice (some ⟨b9, o9, none⟩) n9 c9) := by rw [cell_of_row w2 _ _ _ _ _ ht5]; rfl
      have hrow2 := row_keep (grown_at P.out.row HG.out hne.1) hb2
      have hkr2 := row_keep HKR.out hb2
      obtain ⟨y0, y1, y2, y3, y4, y5, y6, y7, y8, yf⟩ := cellsD hrow2
      have hkf2 : ∀ i, w2.frozen? ⟨kb, i, none⟩ = false := fun i => frozen_of_row w2 _ i _ _ hkr2
      have hkc2 : w2.cell? ⟨kb, sn, none⟩ = some (vals'[sn]'(by rw [HVL.out]; exact hsn2)) := by
        rw [cell_of_row w2 _ _ _ _ _ hkr2]
        simp [show sn < vals'.length by rw [HVL.out]; exact hsn2]
      have HKR2 := Lib.hid hkr2
      have HB2 := Lib.hid hb2
      have htn : wr.heap.size ≠ kb := by omega
      obtain ⟨tb, htb⟩ : ∃ tb, wr.heap.size = tb := ⟨_, rfl⟩
      rw [htb] at t50 t51 htn
      rw [htb]
      clear c0 c1 c2 c3 c4 c5 c6 c7 c8 cf hkf ht5 hrow2 hkr2 hb2 hgw hgw2 htb
      have hq2 := row_keep (grown_at hq HG.out kq) HB2.out
      have hk2 := (RdB.kept hkr (fun x hx hn0 => by rw [HB2.out.block x.block (Nat.lt_of_lt_of_le (hkz x hx hn0) HG.out.size)]; exact HG.out.block x.block (hkz x hx hn0) (fun e => hkk x hx hn0 (Option.some.inj e))) : RdB w2 ka kn kc kl)
      refine (cut1_any q ka kn kc kl k _ hq2 hk2).mono ?_
      rintro e w3 ⟨rfl, rfl⟩
      clear hq2 hk2
      by_cases hkk2 : kl.getD k false = true
      · have HKK := Lib.hid hkk2
        rw [HKK.out]
        clear hkk2
        go_wp2_with fail
        go_region
        go_wp2_with fail
        have HNX : Hid (settleK (fun i => kl.getD i false) (k + 1) (st.pend.drop (k + 1)) (kept'.set sn b) = settleK (fun i => kl.getD i false) 0 st.pend st.kept) := by
          show _ = _
          rw [← HS.out, HDR.out, settleK, if_pos HKK.out]
          rfl
        have hoth : ∀ x, Z x → ¬ MutD d kb mb pv x → (w2.setCell ⟨kb, sn, none⟩ (.slice (some ⟨b9, o9, none⟩) n9 c9)).drew.heap[x]? = wr.heap[x]? := by
          intro x hx hm
          show (w2.setCell ⟨kb, sn, none⟩ _).heap[x]? = _
          rw [heap_setCell_other w2 ⟨kb, sn, none⟩ x _ (fun e => hm (.inr (.inl e))), HB2.out.block x (Nat.lt_of_lt_of_le (hz x hx) HG.out.size)]
        have hk3 : (w2.setCell ⟨kb, sn, none⟩ (.slice (some ⟨b9, o9, none⟩) n9 c9)).drew.heap[kb]? = some (.cells (vals'.set sn (.slice (some ⟨b9, o9, none⟩) n9 c9)).toArray 36 (0, 0)) := by
          show (w2.setCell ⟨kb, sn, none⟩ _).heap[kb]? = _
          rw [heap_setCell_same w2 kb sn _ _ _ HKR2.out]
          simp
        have hv3 : All2 (SecV (w2.setCell ⟨kb, sn, none⟩ (.slice (some ⟨b9, o9, none⟩) n9 c9)).drew (MutD d kb mb pv) Z st.size) (vals'.set sn (.slice (some ⟨b9, o9, none⟩) n9 c9)) (kept'.set sn b) :=
          (HKV.out.imp fun v l h => h.at hoth (fun _ _ h => h) (fun _ h => h)).set sn (.inr ⟨b9, o9, n9, c9, rfl, HR9.out.at (hoth b9 hz9 hm9), hn9, hm9, hz9⟩)
        have hg3 : w.grownBy (w2.setCell ⟨kb, sn, none⟩ (.slice (some ⟨b9, o9, none⟩) n9 c9)).drew (some kb) := grown_put HG.out HB2.out kb sn _
        have hl3 : ∀ l ∈ kept'.set sn b, l.length = st.size := fun l hl => by
          rcases List.mem_or_eq_of_mem_set hl with h | h
          · exact HKS.out l h
          · rw [h]; exact HP1.out
        have HK3 := Lib.hid hk3
        have HV3 := Lib.hid hv3
        have HG3 := Lib.hid hg3
        have HL3 := Lib.hid hl3
        clear hk3 hv3 hg3 hl3 hoth
        go_roundw
        case rel => exact ⟨k + 1, vals'.set sn (.slice (some ⟨b9, o9, none⟩) n9 c9), kept'.set sn b, by omega, by go_num, HK3.out, HV3.out, HNX, HG3.out, by rw [List.length_set]; exact HKL.out, HL3.out⟩
        case measure => simp [intOf] <;> omega
      · have hkf0 : kl.getD k false = false := by simpa using hkk2
        have HKK := Lib.hid hkf0
        rw [HKK.out]
        clear hkk2 hkf0
        go_wp2_with fail
        have HNX : Hid (settleK (fun i => kl.getD i false) (k + 1) (st.pend.drop (k + 1)) kept' = settleK (fun i => kl.getD i false) 0 st.pend st.kept) := by
          show _ = _
          rw [← HS.out, HDR.out, settleK, if_neg (by rw [HKK.out]; decide)]
        have HK3 := Lib.hid HKR2.out
        have HV3 := Lib.hid (HKV.out.imp fun v l h => h.at (w' := w2) (fun x hx hm => HB2.out.block x (Nat.lt_of_lt_of_le (hz x hx) HG.out.size)) (fun _ _ h => h) (fun _ h => h))
        have HG3 : Hid (w.grownBy w2 (some kb)) := ⟨HB2.out.os.trans HG.out.os, HB2.out.tape.trans HG.out.tape, HB2.out.output.trans HG.out.output, Nat.le_trans HG.out.size HB2.out.size, fun x hx hne => by rw [HB2.out.block x (Nat.lt_of_lt_of_le hx HG.out.size)]; exact HG.out.block x hx hne⟩
        go_roundw
        case rel => exact ⟨k + 1, vals', kept', by omega, by go_num, HK3.out, HV3.out, HNX, HG3.out, HKL.out, HKS.out⟩
        case measure => simp [intOf] <;> omega

    · obtain rfl : k = n := by omega
      have hK : settleK (fun i => kl.getD i false) 0 st.pend st.kept = kept' := by
        rw [← HS.out, List.drop_of_length_le (by rw [HN.out]; exact Nat.le_refl _)]
        rfl
      have HK := Lib.hid hK
      have hdlt : d < wr.heap.size := Nat.lt_of_lt_of_le (hz d (hZm d (.inl rfl))) HG.out.size
      have hm1 : MapAt (wr.setCell ⟨d, 5, none⟩ (.slice none 0 0)) mb (lastOf st.pend) := P.out.map.at (by
        rw [heap_setCell_other wr ⟨d, 5, none⟩ mb _ (fun e => hne.2.1 e.symm)]
        exact HG.out.block mb (hz mb (hZm mb (.inr (.inr (.inl rfl))))) (fun e => hne.2.2 (Option.some.inj e).symm))
      obtain ⟨vc, w5, hrun, hmap5, hg5⟩ := map_clear hm1 0
      have HM5 := Lib.hid hmap5
      have HG5 := Lib.hid hg5
      have hrow := grown_at P.out.row HG.out hne.1
      have HROW := Lib.hid hrow
      clear hK hm1 hmap5 hg5 hrow
      go_wp2_with fail
      go_end0
      rw [HK.out]
      have hoth : ∀ x, Z x → ¬ MutD d kb mb pv x → w5.heap[x]? = wr.heap[x]? := fun x hx hm => by
        rw [HG5.out.block x (by simp; exact Nat.lt_of_lt_of_le (hz x hx) HG.out.size) (fun e => hm (.inr (.inr (.inl (Option.some.inj e))))), heap_setCell_other wr ⟨d, 5, none⟩ x _ (fun e => hm (.inl e))]
      have hM : ∀ x, Z x → ¬ MutD d kb mb pv x → ¬ MutD d kb mb (.slice none 0 0) x := fun x _ hm h => by
        rcases h with h | h | h | h
        · exact hm (.inl h)
        · exact hm (.inr (.inl h))
        · exact hm (.inr (.inr (.inl h)))
        · cases h
      refine ⟨rfl, ⟨fun x hx => ?_, kb, mb, .slice none 0 0, kv, vals', [], ?_⟩, ⟨HG5.out.os.trans HG.out.os, HG5.out.tape.trans HG.out.tape, HG5.out.output.trans HG.out.output, ?_, fun x hx hzx => ?_, fun x h => .inl h⟩⟩
      · have := HG5.out.size
        simp at this
        exact Nat.lt_of_lt_of_le (hz x hx) (Nat.le_trans HG.out.size this)
      · refine ⟨?_, ?_, HKV.out.imp fun v l h => h.at hoth hM (fun _ h => h), World.ownsRow_nil _ _ _ _, All2.nil _, HM5.out.congr (fun _ => rfl), ?_, hne, (fun g hg => by cases hg), ?_, ?_⟩
        · rw [HG5.out.block d (by simpa using hdlt) (fun e => hne.2.1 (Option.some.inj e)), heap_setCell_same wr d 5 _ _ _ HROW.out]
          simp [HKL.out]
        · rw [HG5.out.block kb (by simpa using (Array.getElem?_eq_some_iff.1 HKR.out).1) (fun e => hne.2.2 (Option.some.inj e)), heap_setCell_other wr ⟨d, 5, none⟩ kb _ (fun e => hne.1 e.symm)]
          exact HKR.out
        · exact (P.out.keep.at (w' := wr) (fun x hx hm => HG.out.block x (hz x hx) (fun e => hm (.inr (.inl (Option.some.inj e))))) (fun _ _ h => h) (fun _ h => h)).at hoth hM (fun _ h => h)
        · intro x h
          rcases h with h | h | h | h
          · exact hZm x (.inl h)
          · exact hZm x (.inr (.inl h))
          · exact hZm x (.inr (.inr (.inl h)))
          · cases h
        · exact ⟨P.out.ok.size, by show 1 ≤ kept'.length ∧ kept'.length ≤ 65536; rw [HKL.out]; exact P.out.ok.n, HKS.out, (fun q hq => by cases hq), P.out.ok.armed, (by simp), P.out.ok.writes, P.out.ok.reads⟩
      · have := HG5.out.size
        simp at this
        exact Nat.le_trans HG.out.size this
      · have h1 : x ≠ d := fun e => hzx (by rw [e]; exact hZm d (.inl rfl))
        have h2 : x ≠ kb := fun e => hzx (by rw [e]; exact hZm kb (.inr (.inl rfl)))
        have h3 : x ≠ mb := fun e => hzx (by rw [e]; exact hZm mb (.inr (.inr (.inl rfl))))
        rw [HG5.out.block x (by simp; exact Nat.lt_of_lt_of_le hx HG.out.size) (fun e => h3 (Option.some.inj e)), heap_setCell_other wr ⟨d, 5, none⟩ x _ h1]
        exact HG.out.block x hx (fun e => h2 (Option.some.inj e))
end Go.Proofs.Ytlhpdkapddnbcaa

namespace Go.Proofs.Ytlhpdkapddnbcaa
open Go.RowKit
theorem DkP.re {w w' : World} {Z : Nat → Prop} {d kb mb : Nat} {pv kv : Value} {vals pvs : List Value} {st st' : Dk} (p : DkP w Z d kb mb pv kv vals pvs st) (hoth : ∀ x, Z x → x ≠ d → w'.heap[x]? = w.heap[x]?)
    (row : w'.heap[d]? = some (.cells #[.bool st'.off, .int .i64 st'.armed, kv, .int .i64 st'.size, .slice (some ⟨kb, 0, none⟩) st'.kept.length st'.kept.length, pv, .map (some mb), .int .i64 st'.writes, .int .i64 st'.reads] 51 (0, 0))) (e1 : st'.kept = st.kept) (e2 : st'.size = st.size) (e3 : st'.pend = st.pend) (e4 : st'.keep = st.keep) (ok : DkOk st') : DkP w' Z d kb mb pv kv vals pvs st' := by
  have hm : ∀ x, Z x → ¬ MutD d kb mb pv x → w'.heap[x]? = w.heap[x]? := fun x hx h => hoth x hx (fun e => h (.inl e))
  refine ⟨row, ?_, ?_, ?_, ?_, ?_, ?_, p.ne, p.rm, p.z, ok⟩
  · rw [hoth kb (p.z kb (.inr (.inl rfl))) p.ne.1.symm]; exact p.krow
  · rw [e1, e2]; exact p.kvals.imp fun v l h => h.at hm (fun _ _ h => h) (fun _ h => h)
  · rw [e3]; exact ownsRow_at p.prow (fun g hg => hoth g (p.z g (.inr (.inr (.inr hg)))) (p.rm g hg).1)
  · rw [e3]; exact p.pvals.imp fun v l h => h.at hm (fun _ _ h => h) (fun _ h => h)
  · rw [e3]; exact p.map.at (hoth mb (p.z mb (.inr (.inr (.inl rfl)))) p.ne.2.1.symm)
  · rw [e4]; exact p.keep.at hm (fun _ _ h => h) (fun _ h => h)
theorem Tnd.trans {Z Z1 Z2 : Nat → Prop} {w w1 w2 : World} (h : Tnd Z Z1 w w1) (k : Tnd Z1 Z2 w1 w2) : Tnd Z Z2 w w2 :=
  ⟨k.os.trans h.os, k.tape.trans h.tape, k.output.trans h.output, Nat.le_trans h.size k.size, fun x hx hn => by
    rw [k.block x (Nat.lt_of_lt_of_le hx h.size) (fun h1 => by rcases h.sub x h1 with h2 | h2; exact hn h2; omega)]
    exact h.block x hx hn, fun x hx => by
    rcases k.sub x hx with h1 | h1
    · exact h.sub x h1
    · exact .inr (Nat.le_trans h.size h1)⟩
theorem heap_alloc_keep (w : World) (o : Obj) {k : Nat} (h : k < w.heap.size) : (w.alloc o).heap[k]? = w.heap[k]? := by
  show (w.heap.push o)[k]? = _
  simp [Array.getElem?_push, Nat.ne_of_lt h]
/-- A disk that nothing has touched. -/
theorem DkIn.same {w w' : World} {Z : Nat → Prop} {d : Nat} {st : Dk} (h : DkIn w Z d st) (hs : ∀ x, Z x → w'.heap[x]? = w.heap[x]?) (hsz : w.heap.size ≤ w'.heap.size) : DkIn w' Z d st := by
  obtain ⟨hz, kb, mb, pv, kv, vals, pvs, p⟩ := h
  refine ⟨fun x hx => Nat.lt_of_lt_of_le (hz x hx) hsz, kb, mb, pv, kv, vals, pvs, p.re (fun x hx _ => hs x hx) ?_ rfl rfl rfl rfl p.ok⟩
  rw [hs d (p.z d (.inl rfl))]; exact p.row
theorem DkIn.below {w w' : World} {Z : Nat → Prop} {d : Nat} {st : Dk} (h : DkIn w Z d st) (hb : Below w.heap.size w w') : DkIn w' Z d st := h.same (fun x hx => hb.block x (h.1 x hx)) hb.size
set_option linter.unusedSimpArgs false in
set_option linter.unusedVariables false in
set_option maxRecDepth 100000 in
set_option maxHeartbeats 2000000 in
theorem off_any (Z : Nat → Prop) (d : Nat) (st : Dk) (w : World) (h : DkIn w Z d st) :
    Calls Try.prog 16 #[.pointer (some ⟨d, 0, none⟩)] w fun e w' => e = .returned (.bool st.off) ∧ w = w' := by
  obtain ⟨hz, kb, mb, pv, kv, vals, pvs, p⟩ := h
  obtain ⟨c0, c1, c2, c3, c4, c5, c6, c7, c8, cf⟩ := cellsD p.row
  clear p
  go_enter Try.func16, Try.ntmps16
  go_wp2
  go_ret
  exact ⟨rfl, rfl⟩
set_option linter.unusedSimpArgs false in
set_option linter.unusedVariables false in
set_option maxRecDepth 100000 in
set_option maxHeartbeats 2000000 in
theorem there_any (Z : Nat → Prop) (d : Nat) (st : Dk) (s : Int) (w : World) (h : DkIn w Z d st) :
    Calls Try.prog 54 #[.pointer (some ⟨d, 0, none⟩), .int .i64 s] w fun e w' => e = .returned (.bool (inS st s)) ∧ w = w' := by
  obtain ⟨hz, kb, mb, pv, kv, vals, pvs, p⟩ := h
  obtain ⟨c0, c1, c2, c3, c4, c5, c6, c7, c8, cf⟩ := cellsD p.row
  have hE : inS st s = (decide (0 ≤ s) && decide (s < st.kept.length)) := rfl
  clear p
  by_cases h0 : 0 ≤ s
  · have d0 : decide (0 ≤ s) = true := decide_eq_true h0
    rw [hE, d0]
    clear hE
    go_enter Try.func54, Try.ntmps54
    go_wp2
    all_goals
      go_ret
      exact ⟨rfl, rfl⟩
  · have d0 : decide (0 ≤ s) = false := decide_eq_false h0
    rw [hE, d0]
    clear hE
    go_enter Try.func54, Try.ntmps54
    go_wp2
    go_ret
    exact ⟨rfl, rfl⟩
set_option linter.unusedSimpArgs false in
set_option linter.unusedVariables false in
set_option maxRecDepth 100000 in
set_option maxHeartbeats 2000000 in
theorem on_any (Z : Nat → Prop) (d : Nat) (st : Dk) (w : World) (h : DkIn w Z d st) :
    Calls Try.prog 18 #[.pointer (some ⟨d, 0, none⟩)] w fun e w' => e = .returned (.tuple #[]) ∧ DkIn w' Z d { st with off := false } ∧ Tnd Z Z w w' := by
  obtain ⟨hz, kb, mb, pv, kv, vals, pvs, p⟩ := h
  obtain ⟨c0, c1, c2, c3, c4, c5, c6, c7, c8, cf⟩ := cellsD p.row
  have P := Lib.hid p
  have hZm := p.z
  clear p
  go_enter Try.func18, Try.ntmps18
  go_wp2
  go_end0
  refine ⟨rfl, ⟨fun x hx => by simpa using hz x hx, kb, mb, pv, kv, vals, pvs, P.out.re (fun x _ hne => heap_setCell_other w ⟨d, 0, none⟩ x _ hne) ?_ rfl rfl rfl rfl ⟨P.out.ok.size, P.out.ok.n, P.out.ok.kept, P.out.ok.pend, P.out.ok.armed, P.out.ok.few, P.out.ok.writes, P.out.ok.reads⟩⟩, ⟨rfl, rfl, rfl, by simp, fun x _ hzx => heap_setCell_other w ⟨d, 0, none⟩ x _ (fun e => hzx (by rw [show x = d from e]; exact hZm d (.inl rfl))), fun x h => .inl h⟩⟩
  rw [heap_setCell_same w d 0 _ _ _ P.out.row]
  simp
set_option linter.unusedSimpArgs false in
set_option linter.unusedVariables false in
set_option maxRecDepth 100000 in
set_option maxHeartbeats 2000000 in
theorem cutP (Z : Nat → Prop) (d kb mb : Nat) (pv kv : Value) (vals pvs : List Value) (st : Dk) (w : World) (p : DkP w Z d kb mb pv kv vals pvs st) (hz : ∀ k, Z k → k < w.heap.size) (a : Option Addr) (n c : Nat) (kl : List Bool) (hr : RdB w a n c kl) (hlo : ∀ x, a = some x → 0 < n → x.block < w.heap.size ∧ ¬ MutD d kb mb pv x.block) :
    Calls Try.prog 17 #[.pointer (some ⟨d, 0, none⟩), .slice a n c] w fun e w' => e = .returned (.tuple #[]) ∧ DkIn w' Z d (cutS st kl) ∧ Tnd Z Z w w' := by
  have hd : d < w.heap.size := hz d (p.z d (.inl rfl))
  obtain ⟨c0, c1, c2, c3, c4, c5, c6, c7, c8, cf⟩ := cellsD p.row
  have P := Lib.hid p
  have hdq : d ≠ w.heap.size := by omega
  clear p
  go_enter Try.func17, Try.ntmps17
  have hmf : ∀ (fn : Fn) (first cap : Array Value) (w : World), (Instr.makeFunc fn first cap).run Try.prog w = .ok (.func fn first cap) w := fun _ _ _ _ => rfl
  go_wp2_with fail
  obtain ⟨w2, hw2⟩ : ∃ w2, (((w.setCell ⟨d, 0, none⟩ (.bool true)).setCell ⟨d, 1, none⟩ (.int .i64 0)).alloc (.cells #[.slice a n c] 38)) = w2 := ⟨_, rfl⟩
  have hoth : ∀ x, x < w.heap.size → x ≠ d → w2.heap[x]? = w.heap[x]? := fun x hx hne => by
    rw [← hw2, heap_alloc_keep _ _ (by simpa using hx), heap_setCell_other _ ⟨d, 1, none⟩ x _ hne, heap_setCell_other _ ⟨d, 0, none⟩ x _ hne]
  have hrow : w2.heap[d]? = some (.cells #[.bool true, .int .i64 0, kv, .int .i64 st.size, .slice (some ⟨kb, 0, none⟩) st.kept.length st.kept.length, pv, .map (some mb), .int .i64 st.writes, .int .i64 st.reads] 51 (0, 0)) := by
    rw [← hw2, heap_alloc_keep _ _ (by simpa using hd), heap_setCell_same _ d 1 _ _ _ (heap_setCell_same w d 0 _ _ _ P.out.row)]
    simp
  have hq : w2.heap[w.heap.size]? = some (.cells #[.slice a n c] 38 (0, 0)) := by
    rw [← hw2]
    have := heap_alloc_new ((w.setCell ⟨d, 0, none⟩ (.bool true)).setCell ⟨d, 1, none⟩ (.int .i64 0)) (.cells #[.slice a n c] 38)
    simpa using this
  have hs2 : w2.heap.size = w.heap.size + 1 := by rw [← hw2]; simp
  have hmeta : w2.os = w.os ∧ w2.tape = w.tape ∧ w2.output = w.output := by rw [← hw2]; exact ⟨rfl, rfl, rfl⟩
  rw [hw2]
  have P2 : DkP w2 Z d kb mb pv kv vals pvs { st with off := true, armed := 0 } := P.out.re (fun x hx hne => hoth x (hz x hx) hne) hrow rfl rfl rfl rfl ⟨P.out.ok.size, P.out.ok.n, P.out.ok.kept, P.out.ok.pend, ⟨(show (0:Int) ≤ 0 by decide), (show (0:Int) ≤ 9223372036854775807 by decide)⟩, P.out.ok.few, P.out.ok.writes, P.out.ok.reads⟩
  have hkb : kb < w.heap.size := hz kb (P.out.z kb (.inr (.inl rfl)))
  have ht2 : Tnd Z Z w w2 := ⟨hmeta.1, hmeta.2.1, hmeta.2.2, by omega, fun x hx hzx => hoth x hx (fun e => hzx (by rw [e]; exact P.out.z d (.inl rfl))), fun x h => .inl h⟩
  refine (settle_cut Z d kb mb pv kv vals pvs _ w2 P2 (fun x hx => by have := hz x hx; omega) w.heap.size a n c kl hq (by omega) (hr.kept (fun x h1 h2 => hoth x.block (hlo x h1 h2).1 (fun e => (hlo x h1 h2).2 (.inl e)))) (fun x h1 h2 => by have := (hlo x h1 h2).1; omega) (fun x h1 h2 e => (hlo x h1 h2).2 (.inr (.inl e)))).mono ?_
  rintro e w3 ⟨rfl, hd3, ht3⟩
  have HD3 := Lib.hid hd3
  have HT3 := Lib.hid (ht2.trans ht3)
  clear hd3 ht3 ht2 P2 hoth hrow hq hw2 c0 c1 c2 c3 c4 c5 c6 c7 c8 cf
  go_wp2_with fail
  go_end0
  exact ⟨rfl, HD3.out, HT3.out⟩
set_option linter.unusedSimpArgs false in
set_option linter.unusedVariables false in
set_option maxRecDepth 100000 in
set_option maxHeartbeats 2000000 in
theorem cut_any (Z : Nat → Prop) (d : Nat) (st : Dk) (w : World) (h : DkIn w Z d st) (a : Option Addr) (n c : Nat) (kl : List Bool) (hr : RdB w a n c kl) (hlo : ∀ x, a = some x → 0 < n → x.block < w.heap.size ∧ ¬ Z x.block) :
    Calls Try.prog 17 #[.pointer (some ⟨d, 0, none⟩), .slice a n c] w fun e w' => e = .returned (.tuple #[]) ∧ DkIn w' Z d (cutS st kl) ∧ Tnd Z Z w w' := by
  obtain ⟨hz, kb, mb, pv, kv, vals, pvs, p⟩ := h
  exact cutP Z d kb mb pv kv vals pvs st w p hz a n c kl hr (fun x h1 h2 => ⟨(hlo x h1 h2).1, fun hm => (hlo x h1 h2).2 (p.z _ hm)⟩)
set_option linter.unusedSimpArgs false in
set_option linter.unusedVariables false in
set_option maxRecDepth 100000 in
set_option maxHeartbeats 2000000 in
theorem flush_any (Z : Nat → Prop) (d : Nat) (st : Dk) (w : World) (h : DkIn w Z d st) :
    Calls Try.prog 28 #[.pointer (some ⟨d, 0, none⟩)] w fun e w' => e = .returned (.int .i64 (if st.off = true then 8 else 0)) ∧ DkIn w' Z d (if st.off = true then st else flushS st) ∧ Tnd Z Z w w' := by
  have H := Lib.hid h
  cases ho : st.off with
  | true =>
    rw [if_pos rfl, if_pos rfl]
    have HO := Lib.hid ho
    clear ho h
    go_enter Try.func28, Try.ntmps28
    go_wp2_with fail
    refine (off_any Z d st w H.out).mono ?_
    rintro e w1 ⟨rfl, rfl⟩
    rw [HO.out]
    go_wp2_with fail
    go_ret
    exact ⟨rfl, H.out, Tnd.refl _ _⟩
  | false =>
    rw [if_neg (by decide), if_neg (by decide)]
    have HO := Lib.hid ho
    obtain ⟨hz, kb, mb, pv, kv, vals, pvs, p⟩ := h
    have P := Lib.hid p
    clear ho p
    go_enter Try.func28, Try.ntmps28
    go_wp2_with fail
    refine (off_any Z d st w H.out).mono ?_
    rintro e w1 ⟨rfl, rfl⟩
    rw [HO.out]
    go_wp2_with fail
    refine (settle_all Z d kb mb pv kv vals pvs st w P.out hz).mono ?_
    rintro e w1 ⟨rfl, hd1, ht1⟩
    have HD1 := Lib.hid hd1
    have HT1 := Lib.hid ht1
    clear hd1 ht1
    go_wp2_with fail
    go_ret
    exact ⟨rfl, HD1.out, HT1.out⟩
end Go.Proofs.Ytlhpdkapddnbcaa

namespace Go.Proofs.Ytlhpdkapddnbcaa
open Go.RowKit
set_option maxRecDepth 100000 in
theorem secT : Try.prog.underlying 28 = some (.slice 36) := Try.underlying28
set_option maxRecDepth 100000 in
theorem mkI : (Try.prog.info? 5).map (fun i => (i.zero, i.size, i.bytes)) = some (some (.int .u8 0), 1, 1) := by kernel_rfl
set_option maxRecDepth 100000 in
theorem mk_bytes (n : Nat) (hn : n ≤ 1000000) (w : World) : (Instr.makeSlice 36 (.int .i64 (n : Int)) (.int .i64 (n : Int))).run Try.prog w = .ok (.slice (some ⟨w.heap.size, 0, none⟩) n n) (w.alloc (.cells (List.replicate n (.int .u8 0)).toArray 5)) := by
  obtain ⟨i, hi, hz, hs, hb⟩ := info_parts mkI
  have hr := run_make (P := Try.prog) w 36 5 i (.int .u8 0) u8T hi hz .i64 .i64 n n (by omega) (Int.le_refl _) (by rw [hb]; omega) (by omega)
  rw [hr, hs, Int.toNat_natCast, Nat.mul_one]
  congr 4
  rw [show (Value.int .u8 0).cells = #[.int .u8 0] from rfl, ← toList_madeCells_one]
theorem zeros_own (n : Nat) (hn : n ≤ 1000000) (w : World) : Owns .u8 5 (w.alloc (.cells (List.replicate n (.int .u8 0)).toArray 5)) w.heap.size (.slice (some ⟨w.heap.size, 0, none⟩) n n) (List.replicate n 0) := by
  refine ⟨fun x hx => by rw [List.eq_of_mem_replicate hx]; rfl, .inr ?_⟩
  have := World.ownsRow_lit (base := w.heap.size) (e := 5) (size := 1) w (List.replicate n (.int .u8 0)).toArray n (Nat.le_refl _) (by unfold maxLen; omega) (by simp)
  simpa using this
theorem sec_at {w : World} {Z : Nat → Prop} {d kb mb : Nat} {pv kv : Value} {vals pvs : List Value} {st : Dk} (p : DkP w Z d kb mb pv kv vals pvs st) {s : Nat} (hs : s < st.kept.length) :
    ∃ v l, st.kept[s]? = some l ∧ SecV w (MutD d kb mb pv) Z st.size v l ∧ w.cell? ⟨kb, s, none⟩ = some v ∧ l.length = st.size := by
  have hl : st.kept[s]? = some st.kept[s] := List.getElem?_eq_getElem hs
  obtain ⟨v, hv, hsv⟩ := p.kvals.get hl
  refine ⟨v, st.kept[s], hl, hsv, ?_, p.ok.kept _ (List.getElem_mem hs)⟩
  rw [cell_of_row w _ _ _ _ _ p.krow]
  simpa using hv
set_option linter.unusedSimpArgs false in
set_option linter.unusedVariables false in
set_option maxRecDepth 100000 in
set_option maxHeartbeats 2000000 in
theorem bytes_any (Z : Nat → Prop) (d : Nat) (st : Dk) (s : Nat) (w : World) (h : DkIn w Z d st) (hs : s < st.kept.length) :
    Calls Try.prog 57 #[.pointer (some ⟨d, 0, none⟩), .int .i64 s] w (GivesBytes ((st.kept[s]?).getD []) w) := by
  obtain ⟨hz, kb, mb, pv, kv, vals, pvs, p⟩ := h
  obtain ⟨c0, c1, c2, c3, c4, c5, c6, c7, c8, cf⟩ := cellsD p.row
  obtain ⟨v, l, hl, hv, hc, hll⟩ := sec_at p hs
  have hsz := p.ok.size
  have hn := p.ok.n
  rw [hl, Option.getD_some]
  have hnil := fun (w : World) (a : Option Addr) (n c : Nat) => Lib.run_eql_slice_nil (P := Try.prog) w 36 5 a n c 0 0 Try.underlying36
  obtain ⟨n, hN⟩ : ∃ n, st.size = n := ⟨_, rfl⟩
  rw [hN] at hsz hll c3 hv
  have hmk := mk_bytes n (by omega)
  have hown := zeros_own n (by omega) w
  have HO := Lib.hid hown
  have hd1 : decide ((s : Int) < st.kept.length) = true := decide_eq_true (by omega)
  clear p hl hown
  rcases hv with ⟨rfl, rfl⟩ | ⟨b, o, n9, c9, rfl, hr, hn9, _, _⟩
  · go_enter Try.func57, Try.ntmps57
    go_wp2
    go_ret
    exact ⟨_, rfl, HO.out, (Below.refl _ _).alloc (Nat.le_refl _) _⟩
  · have h9 : n9 ≤ 1000000000 := by have := hr.len; omega
    have HR := Lib.hid hr
    clear hr
    go_enter Try.func57, Try.ntmps57
    go_wp2_with fail
    refine (clone_any _ _ _ _ _ HR.out h9).mono ?_
    rintro e w2 ⟨v2, rfl, ho2, hb2⟩
    have HO2 := Lib.hid ho2
    have HB2 := Lib.hid hb2
    obtain ⟨a2, k2, rfl⟩ := ho2.shapeN n hll
    clear ho2 hb2
    go_wp2_with fail
    go_ret
    exact ⟨_, rfl, HO2.out, HB2.out⟩
set_option linter.unusedSimpArgs false in
set_option linter.unusedVariables false in
set_option maxRecDepth 100000 in
set_option maxHeartbeats 2000000 in
theorem goes_any (Z : Nat → Prop) (d kb mb : Nat) (pv kv : Value) (vals pvs : List Value) (st : Dk) (w : World) (p : DkP w Z d kb mb pv kv vals pvs st) (hz : ∀ k, Z k → k < w.heap.size) :
    Calls Try.prog 55 #[.pointer (some ⟨d, 0, none⟩)] w fun e w' => e = .returned (.bool (decide (st.armed = 1))) ∧ DkP w' Z d kb mb pv kv vals pvs { st with armed := if st.armed = 0 then 0 else st.armed - 1 } ∧ Tnd Z Z w w' ∧ (∀ k, Z k → k < w'.heap.size) := by
  obtain ⟨c0, c1, c2, c3, c4, c5, c6, c7, c8, cf⟩ := cellsD p.row
  have P := Lib.hid p
  have ha := p.ok.armed
  have hd : d < w.heap.size := hz d (p.z d (.inl rfl))
  clear p
  by_cases h0 : st.armed = 0
  · have e1 : decide (st.armed = 1) = false := decide_eq_false (by omega)
    have e2 : ({ st with armed := if st.armed = 0 then 0 else st.armed - 1 } : Dk) = st := by rw [if_pos h0, ← h0]
    rw [e1, e2]
    rw [h0] at c1
    go_enter Try.func55, Try.ntmps55
    go_wp2
    go_ret
    exact ⟨rfl, P.out, Tnd.refl _ _, hz⟩
  · have d0 : decide (st.armed = 0) = false := decide_eq_false h0
    have e1 : decide (st.armed - 1 = 0) = decide (st.armed = 1) := by
      by_cases h : st.armed = 1
      · rw [h]; decide
      · rw [decide_eq_false h, decide_eq_false (by omega)]
    rw [if_neg h0]
    have w1 : IntKind.i64.wrap (st.armed - 1) = st.armed - 1 := by rw [IntKind.wrap_i64]; omega
    go_enter Try.func55, Try.ntmps55
    go_wp2
    go_ret
    refine ⟨by rw [← e1]; rfl, P.out.re (fun x _ hne => heap_setCell_other w ⟨d, 1, none⟩ x _ hne) ?_ rfl rfl rfl rfl ⟨P.out.ok.size, P.out.ok.n, P.out.ok.kept, P.out.ok.pend, ⟨by show 0 ≤ st.armed - 1; omega, by show st.armed - 1 ≤ 9223372036854775807; omega⟩, P.out.ok.few, P.out.ok.writes, P.out.ok.reads⟩, ⟨rfl, rfl, rfl, by simp, fun x _ hzx => heap_setCell_other w ⟨d, 1, none⟩ x _ (fun e => hzx (by rw [show x = d from e]; exact P.out.z d (.inl rfl))), fun x h => .inl h⟩, fun x hx => by simpa using hz x hx⟩
    rw [heap_setCell_same w d 1 _ _ _ P.out.row]
    simp
set_option linter.unusedSimpArgs false in
set_option linter.unusedVariables false in
set_option maxRecDepth 100000 in
set_option maxHeartbeats 2000000 in
theorem read_any (Z : Nat → Prop) (d : Nat) (st : Dk) (s : Int) (w : World) (h : DkIn w Z d st) (hs1 : -9223372036854775808 ≤ s) (hs2 : s ≤ 9223372036854775807) (hrd : st.reads + 1 ≤ 4611686018427387904) :
    Calls Try.prog 29 #[.pointer (some ⟨d, 0, none⟩), .int .i64 s] w fun e w' => ∃ v, e = .returned (.tuple #[v, .int .i64 (rdE st s)]) ∧ Owns .u8 5 w' w.heap.size v (rdV st s) ∧ DkIn w' Z d (rdS st s) ∧ Tnd Z Z w w' := by
  have H := Lib.hid h
  cases ho : st.off with
  | true =>
    have e1 : rdE st s = 8 := by unfold rdE; rw [ho]; rfl
    have e2 : rdS st s = st := by unfold rdS; rw [e1, if_neg (by decide)]
    have e3 : rdV st s = [] := by unfold rdV; rw [e1, if_neg (by decide)]
    rw [e1, e2, e3]
    have HO := Lib.hid ho
    clear ho h e1 e2 e3
    go_enter Try.func29, Try.ntmps29
    go_wp2_with fail
    refine (off_any Z d st w H.out).mono ?_
    rintro e w1 ⟨rfl, rfl⟩
    rw [HO.out]
    go_wp2_with fail
    go_ret2
    exact ⟨_, rfl, Owns.nil _ _ _ _, H.out, Tnd.refl _ _⟩
  | false =>
    cases hi : inS st s with
    | false =>
      have e1 : rdE st s = 1 := by unfold rdE; rw [ho, hi]; rfl
      have e2 : rdS st s = st := by unfold rdS; rw [e1, if_neg (by decide)]
      have e3 : rdV st s = [] := by unfold rdV; rw [e1, if_neg (by decide)]
      rw [e1, e2, e3]
      have HO := Lib.hid ho
      have HI := Lib.hid hi
      clear ho h e1 e2 e3 hi
      go_enter Try.func29, Try.ntmps29
      go_wp2_with fail
      refine (off_any Z d st w H.out).mono ?_
      rintro e w1 ⟨rfl, rfl⟩
      rw [HO.out]
      go_wp2_with fail
      refine (there_any Z d st s w H.out).mono ?_
      rintro e w2 ⟨rfl, rfl⟩
      rw [HI.out]
      go_wp2_with fail
      go_ret2
      exact ⟨_, rfl, Owns.nil _ _ _ _, H.out, Tnd.refl _ _⟩
    | true =>
      have e1 : rdE st s = 0 := by unfold rdE; rw [ho, hi]; rfl
      have e2 : rdS st s = { st with reads := st.reads + 1 } := by unfold rdS; rw [e1, if_pos rfl]
      have e3 : rdV st s = secB st s.toNat := by unfold rdV; rw [e1, if_pos rfl]
      rw [e1, e2, e3]
      have HO := Lib.hid ho
      have HI := Lib.hid hi
      obtain ⟨hz, kb, mb, pv, kv, vals, pvs, p⟩ := h
      obtain ⟨c0, c1, c2, c3, c4, c5, c6, c7, c8, cf⟩ := cellsD p.row
      have hbd : 0 ≤ s ∧ s < st.kept.length := by
        unfold inS at hi
        simpa using hi
      obtain ⟨sn, rfl⟩ := Int.eq_ofNat_of_zero_le hbd.1
      have hsn : sn < st.kept.length := by omega
      have hr0 := p.ok.reads
      have wr1 : IntKind.i64.wrap (st.reads + 1) = st.reads + 1 := by rw [IntKind.wrap_i64]; omega
      have P := Lib.hid p
      have hd : d < w.heap.size := hz d (p.z d (.inl rfl))
      have hne := p.ne
      have hwf : (Lit.int .i64 (sn : Int)).wf = true := by
        have := p.ok.n
        simp [Lit.wf, IntKind.min, IntKind.max, IntKind.signed, IntKind.bits]
        omega
      have hP2 : DkP (w.setCell ⟨d, 8, none⟩ (.int .i64 (st.reads + 1))) Z d kb mb pv kv vals pvs { st with reads := st.reads + 1 } := by
        refine p.re (fun x _ hne => heap_setCell_other w ⟨d, 8, none⟩ x _ hne) ?_ rfl rfl rfl rfl ⟨p.ok.size, p.ok.n, p.ok.kept, p.ok.pend, p.ok.armed, p.ok.few, p.ok.writes, ⟨by show 0 ≤ st.reads + 1; omega, hrd⟩⟩
        rw [heap_setCell_same w d 8 _ _ _ p.row]
        simp
      have hlk := map_look hP2.map (sn : Int) hwf
      have HP2 := Lib.hid hP2
      have hT2 : Hid (Tnd Z Z w (w.setCell ⟨d, 8, none⟩ (.int .i64 (st.reads + 1)))) := ⟨rfl, rfl, rfl, by simp, fun x _ hzx => heap_setCell_other w ⟨d, 8, none⟩ x _ (fun e => hzx (by rw [show x = d from e]; exact P.out.z d (.inl rfl))), fun x h => .inl h⟩
      clear ho hi e1 e2 e3 hP2 hwf
      cases hlo : lastOf st.pend (sn : Int) with
      | none =>
        have hE : secB st (Int.toNat sn) = (st.kept[sn]?).getD [] := by
          unfold secB
          rw [show (((Int.toNat sn : Nat)) : Int) = sn by omega, hlo]
          rfl
        rw [hE]
        replace hlk : (Instr.lookup 49 (.map (some mb)) (.agg #[.int .i64 (sn : Int)]) true).run Try.prog (w.setCell ⟨d, 8, none⟩ (.int .i64 (st.reads + 1))) = .ok (.tuple #[.int .i64 0, .bool false]) (w.setCell ⟨d, 8, none⟩ (.int .i64 (st.reads + 1))) := by
          rw [hlk]
          simp only [hlo]
          rfl
        clear hlo hE p
        go_enter Try.func29, Try.ntmps29
        go_wp2_with fail
        refine (off_any Z d st w H.out).mono ?_
        rintro e w1 ⟨rfl, rfl⟩
        rw [HO.out]
        go_wp2_with fail
        refine (there_any Z d st (sn : Int) w H.out).mono ?_
        rintro e w2 ⟨rfl, rfl⟩
        rw [HI.out]
        go_wp2_with fail
        refine (bytes_any Z d { st with reads := st.reads + 1 } sn (w.setCell ⟨d, 8, none⟩ (.int .i64 (st.reads + 1))) ⟨fun x hx => by simpa using hz x hx, kb, mb, pv, kv, vals, pvs, HP2.out⟩ hsn).mono ?_
        rintro e w2 ⟨v2, rfl, ho2, hb2⟩
        obtain ⟨a2, n2, k2, hv2⟩ : ∃ a n k, v2 = .slice a n k := by obtain ⟨a, k, h⟩ := ho2.shape; exact ⟨a, _, k, h⟩
        have HO2 := Lib.hid ho2
        have HB2 := Lib.hid hb2
        subst hv2
        clear ho2 hb2
        go_wp2_with fail
        go_ret2
        have hsz8 : (w.setCell ⟨d, 8, none⟩ (.int .i64 (st.reads + 1))).heap.size = w.heap.size := by simp
        refine ⟨_, rfl, by have := HO2.out; rw [hsz8] at this; exact this, DkIn.below ⟨fun x hx => by simpa using hz x hx, kb, mb, pv, kv, vals, pvs, HP2.out⟩ HB2.out, hT2.out.trans ⟨HB2.out.os, HB2.out.tape, HB2.out.output, HB2.out.size, fun x hx _ => HB2.out.block x hx, fun x h => .inl h⟩⟩
      | some i =>
        obtain ⟨k, rfl, hk, b, hpk⟩ := lastOf_some hlo
        have hE : secB st (Int.toNat sn) = b := by
          unfold secB
          rw [show (((Int.toNat sn : Nat)) : Int) = sn by omega, hlo]
          show ((st.pend[Int.toNat k]?).map (·.2)).getD [] = b
          rw [Int.toNat_natCast, hpk]
          rfl
        rw [hE]
        replace hlk : (Instr.lookup 49 (.map (some mb)) (.agg #[.int .i64 (sn : Int)]) true).run Try.prog (w.setCell ⟨d, 8, none⟩ (.int .i64 (st.reads + 1))) = .ok (.tuple #[.int .i64 (k : Int), .bool true]) (w.setCell ⟨d, 8, none⟩ (.int .i64 (st.reads + 1))) := by
          rw [hlk]
          simp only [hlo]
          rfl
        obtain ⟨v, hvk, hv⟩ := p.pvals.get hpk
        obtain ⟨g, ⟨cg, hpv⟩, _, hgc2⟩ := pend_cells p.prow hvk hpk hk
        obtain ⟨b9, o9, n9, c9, rfl, hr9, hn9, hm9, hz9⟩ := hv
        have hgd : g ≠ d := (p.rm g (by rw [hpv]; rfl)).1
        rw [show 2 * k + 1 = k * 2 + 1 by omega] at hgc2
        rw [hpv] at c5
        have hpok := (p.ok.pend _ (List.mem_of_getElem? hpk)).1
        have hszb := p.ok.size
        have h9 : n9 ≤ 1000000000 := by
          have hl1 : b.length = st.size := hpok
          have hl2 : b.length = n9 := hr9.len
          omega
        have HR9 := Lib.hid (RdAt.at (w' := w.setCell ⟨d, 8, none⟩ (.int .i64 (st.reads + 1))) hr9 (heap_setCell_other w ⟨d, 8, none⟩ b9 _ (fun e => hm9 (.inl e))))
        have HPV := Lib.hid hpv
        have hdk : decide ((k : Int) < st.pend.length) = true := decide_eq_true (by omega)
        clear hlo hE p hvk hpk hr9 hm9 hz9 hpv hpok hszb
        go_enter Try.func29, Try.ntmps29
        go_wp2_with fail
        refine (off_any Z d st w H.out).mono ?_
        rintro e w1 ⟨rfl, rfl⟩
        rw [HO.out]
        go_wp2_with fail
        refine (there_any Z d st (sn : Int) w H.out).mono ?_
        rintro e w2 ⟨rfl, rfl⟩
        rw [HI.out]
        go_wp2_with fail
        refine (clone_any _ _ _ _ _ HR9.out h9).mono ?_
        rintro e w2 ⟨v2, rfl, ho2, hb2⟩
        obtain ⟨a2, n2, k2, hv2⟩ : ∃ a n k, v2 = .slice a n k := by obtain ⟨a, k, h⟩ := ho2.shape; exact ⟨a, _, k, h⟩
        have HO2 := Lib.hid ho2
        have HB2 := Lib.hid hb2
        subst hv2
        clear ho2 hb2
        go_wp2_with fail
        go_ret2
        have hsz8 : (w.setCell ⟨d, 8, none⟩ (.int .i64 (st.reads + 1))).heap.size = w.heap.size := by simp
        refine ⟨_, rfl, by have := HO2.out; rw [hsz8] at this; exact this, DkIn.below ⟨fun x hx => by simpa using hz x hx, kb, mb, pv, kv, vals, pvs, HP2.out⟩ HB2.out, hT2.out.trans ⟨HB2.out.os, HB2.out.tape, HB2.out.output, HB2.out.size, fun x hx _ => HB2.out.block x hx, fun x h => .inl h⟩⟩
end Go.Proofs.Ytlhpdkapddnbcaa

namespace Go.Proofs.Ytlhpdkapddnbcaa
open Go.RowKit
set_option linter.unusedSimpArgs false in
set_option linter.unusedVariables false in
set_option maxRecDepth 100000 in
set_option maxHeartbeats 2000000 in
theorem shape_any (Z : Nat → Prop) (d : Nat) (st : Dk) (w : World) (h : DkIn w Z d st) :
    Calls Try.prog 60 #[.pointer (some ⟨d, 0, none⟩)] w fun e w' => e = .returned (.tuple #[.int .i64 st.kept.length, .int .i64 st.size]) ∧ Below w.heap.size w w' := by
  obtain ⟨hz, kb, mb, pv, kv, vals, pvs, p⟩ := h
  obtain ⟨c0, c1, c2, c3, c4, c5, c6, c7, c8, cf⟩ := cellsD p.row
  clear p
  go_enter Try.func60, Try.ntmps60
  go_wp2_with fail
  go_quiet (fail)
  go_wp2_with fail
  go_ret2
  exact ⟨rfl, ⟨rfl, rfl, rfl, Nat.le_refl _, fun _ _ => rfl⟩⟩
end Go.Proofs.Ytlhpdkapddnbcaa

namespace Go.Proofs.Ytlhpdkapddnbcaa
open Go.RowKit

def poly : BitVec 32 := 0x82F63B78#32
/-- One bit. -/
def bs (r : BitVec 32) : BitVec 32 := (r >>> 1) ^^^ (if r.getLsbD 0 then poly else 0#32)
def bsN : Nat → BitVec 32 → BitVec 32
  | 0, r => r
  | n + 1, r => bsN n (bs r)
/-- A byte, as a register. -/
def byte (c : Int) : BitVec 32 := BitVec.ofInt 32 c
def stB (r : BitVec 32) (c : Int) : BitVec 32 := bsN 8 (r ^^^ byte c)
def st (r : BitVec 32) (l : List Int) : BitVec 32 := l.foldl stB r
def ones : BitVec 32 := BitVec.allOnes 32
def sumB (l : List Int) : BitVec 32 := ~~~ st ones l

theorem xor_lc (a b c : BitVec 32) : a ^^^ (b ^^^ c) = b ^^^ (a ^^^ c) := by rw [← BitVec.xor_assoc, BitVec.xor_comm a, BitVec.xor_assoc]
theorem xor_cancel (a b p : BitVec 32) : (a ^^^ p) ^^^ (b ^^^ p) = a ^^^ b := by
  rw [BitVec.xor_assoc, xor_lc p, BitVec.xor_self, BitVec.xor_zero]
theorem bs_xor (a b : BitVec 32) : bs (a ^^^ b) = bs a ^^^ bs b := by
  unfold bs
  rw [BitVec.ushiftRight_xor_distrib, BitVec.getLsbD_xor]
  cases a.getLsbD 0 <;> cases b.getLsbD 0
  · simp
  · simp [BitVec.xor_assoc]
  · simp only [Bool.bne_false, if_true, Bool.false_eq_true, if_false, BitVec.xor_zero]
    rw [BitVec.xor_assoc, BitVec.xor_assoc, BitVec.xor_comm poly]
  · simp only [bne_self_eq_false, if_true, Bool.false_eq_true, if_false, BitVec.xor_zero]
    exact (xor_cancel _ _ _).symm
theorem bsN_xor : ∀ (n : Nat) (a b : BitVec 32), bsN n (a ^^^ b) = bsN n a ^^^ bsN n b
  | 0, _, _ => rfl
  | n + 1, a, b => by rw [bsN, bs_xor, bsN_xor n, bsN, bsN]
theorem bs_zero : bs 0#32 = 0#32 := by decide
theorem bsN_zero : ∀ n, bsN n 0#32 = 0#32
  | 0 => rfl
  | n + 1 => by rw [bsN, bs_zero, bsN_zero n]
theorem bsN_add : ∀ (n m : Nat) (r : BitVec 32), bsN (n + m) r = bsN m (bsN n r)
  | 0, m, r => by rw [Nat.zero_add]; rfl
  | n + 1, m, r => by rw [Nat.add_right_comm, bsN, bsN_add n m, bsN]
theorem bsN_succ (n : Nat) (r : BitVec 32) : bsN (n + 1) r = bs (bsN n r) := by rw [bsN_add n 1]; rfl
theorem bs_eq_zero {r : BitVec 32} (h : bs r = 0#32) : r = 0#32 := by
  unfold bs at h
  by_cases hb : r.getLsbD 0 = true
  · rw [if_pos hb] at h
    have h31 : ((r >>> 1) ^^^ poly).getLsbD 31 = true := by
      rw [BitVec.getLsbD_xor, BitVec.getLsbD_ushiftRight]
      rw [BitVec.getLsbD_of_ge r (1 + 31) (by decide)]
      decide
    rw [h] at h31
    simp at h31
  · rw [if_neg hb, BitVec.xor_zero] at h
    apply BitVec.eq_of_getLsbD_eq
    intro i hi
    cases i with
    | zero => simp at hb; simp [hb]
    | succ i =>
      have : (r >>> 1).getLsbD i = false := by rw [h]; simp
      rw [BitVec.getLsbD_ushiftRight, Nat.add_comm] at this
      rw [this]; simp
theorem bsN_eq_zero : ∀ (n : Nat) {r : BitVec 32}, bsN n r = 0#32 → r = 0#32
  | 0, _, h => h
  | n + 1, _, h => bs_eq_zero (bsN_eq_zero n h)

theorem st_nil (r : BitVec 32) : st r [] = r := rfl
theorem st_cons (r : BitVec 32) (c : Int) (l : List Int) : st r (c :: l) = st (stB r c) l := rfl
theorem st_append (r : BitVec 32) (a b : List Int) : st r (a ++ b) = st (st r a) b := by unfold st; rw [List.foldl_append]
theorem stB_xor (r d : BitVec 32) (c : Int) : stB (r ^^^ d) c = stB r c ^^^ bsN 8 d := by
  unfold stB
  rw [← bsN_xor]; congr 1
  rw [BitVec.xor_assoc, BitVec.xor_assoc, BitVec.xor_comm d]
theorem st_xor : ∀ (l : List Int) (r d : BitVec 32), st (r ^^^ d) l = st r l ^^^ bsN (8 * l.length) d
  | [], r, d => rfl
  | c :: l, r, d => by
    rw [st_cons, stB_xor, st_xor l, st_cons, List.length_cons, Nat.mul_add, Nat.add_comm, Nat.mul_one, bsN_add]

/-- The sum of two rows behind one another, by theirs alone. -/
theorem not_eq_xor (a : BitVec 32) : ~~~ a = a ^^^ ones := (BitVec.xor_allOnes).symm
theorem sum_join (a b : List Int) : sumB (a ++ b) = bsN (8 * b.length) (sumB a) ^^^ sumB b := by
  unfold sumB
  rw [st_append]
  have h : st (ones) a = ones ^^^ ~~~ st (ones) a := by
    rw [not_eq_xor, BitVec.xor_comm (st _ a), ← BitVec.xor_assoc, BitVec.xor_self, BitVec.zero_xor]
  rw [show st (st (ones) a) b = st (ones) b ^^^ bsN (8 * b.length) (~~~ st (ones) a) by rw [← st_xor, ← h]]
  generalize bsN _ _ = z
  rw [not_eq_xor, not_eq_xor, BitVec.xor_comm (st _ b) z, BitVec.xor_assoc]

def rnum (b : BitVec 32) : Int := (b.toNat : Int)
theorem u32_bd (b : BitVec 32) : 0 ≤ rnum b ∧ rnum b ≤ 4294967295 := by unfold rnum; have := b.isLt; omega
theorem ofInt_u32 (a : BitVec 32) : BitVec.ofInt 32 (rnum a) = a := by unfold rnum; rw [BitVec.ofInt_natCast, BitVec.ofNat_toNat]; simp
theorem u32_ofInt (x : Int) (h1 : 0 ≤ x) (h2 : x ≤ 4294967295) : rnum (BitVec.ofInt 32 x) = x := by
  unfold rnum; rw [BitVec.toNat_ofInt]; omega
theorem wrap_u32_toNat (b : BitVec 32) : IntKind.u32.wrap (b.toNat : Int) = rnum b := by rw [IntKind.wrap_u32]; unfold rnum; have := b.isLt; omega
theorem u32_xor (x y : Int) : bits .xor .u32 x y = rnum (BitVec.ofInt 32 x ^^^ BitVec.ofInt 32 y) := wrap_u32_toNat _
theorem u32_and' (x y : Int) : bits .and .u32 x y = rnum (BitVec.ofInt 32 x &&& BitVec.ofInt 32 y) := wrap_u32_toNat _
theorem u32_shr (a : BitVec 32) (k : Nat) : rnum a / 2 ^ k = rnum (a >>> k) := by
  unfold rnum; rw [BitVec.toNat_ushiftRight, Nat.shiftRight_eq_div_pow]; simp
theorem and_one (r : BitVec 32) : r &&& 1#32 = if r.getLsbD 0 then 1#32 else 0#32 := by
  by_cases h : r.getLsbD 0 = true
  · rw [if_pos h]
    apply BitVec.eq_of_getLsbD_eq
    intro i hi
    rw [BitVec.getLsbD_and]
    cases i with
    | zero => rw [h]; rfl
    | succ i => rw [show (1#32).getLsbD (i + 1) = false by simp [BitVec.getLsbD_one]]; simp
  · rw [if_neg h]
    apply BitVec.eq_of_getLsbD_eq
    intro i hi
    rw [BitVec.getLsbD_and]
    cases i with
    | zero => rw [Bool.not_eq_true] at h; rw [h]; rfl
    | succ i => rw [show (1#32).getLsbD (i + 1) = false by simp [BitVec.getLsbD_one]]; simp
theorem bs_go (r : BitVec 32) : bits .xor .u32 (rnum r / 2) (bits .and .u32 (rnum r) 1 * 2197175160) = rnum (bs r) := by
  rw [u32_and', ofInt_u32, show BitVec.ofInt 32 1 = 1#32 from rfl, and_one, u32_xor, show (2 : Int) = 2 ^ 1 from rfl, u32_shr, ofInt_u32]
  unfold bs
  by_cases h : r.getLsbD 0 = true
  · rw [if_pos h, if_pos h]; rfl
  · rw [if_neg h, if_neg h]; rfl
theorem and_one_go (r : BitVec 32) : 0 ≤ bits .and .u32 (rnum r) 1 ∧ bits .and .u32 (rnum r) 1 ≤ 1 := by
  rw [u32_and', ofInt_u32, show BitVec.ofInt 32 1 = 1#32 from rfl, and_one]
  by_cases h : r.getLsbD 0 = true
  · rw [if_pos h]; decide
  · rw [if_neg h]; decide
theorem bsN_shift : ∀ (k : Nat) (x : BitVec 32), (∀ i, i < k → x.getLsbD i = false) → bsN k x = x >>> k
  | 0, x, _ => by simp [bsN]
  | k + 1, x, h => by
    have h1 : bs x = x >>> 1 := by unfold bs; rw [h 0 (by omega)]; simp
    rw [bsN, h1, bsN_shift k (x >>> 1) (fun i hi => by rw [BitVec.getLsbD_ushiftRight]; exact h _ (by omega)), ← BitVec.shiftRight_add, Nat.add_comm]
theorem nibble (r : BitVec 32) : bsN 4 r = (r >>> 4) ^^^ bsN 4 (r &&& 15#32) := by
  have e : r = (r &&& ~~~ 15#32) ^^^ (r &&& 15#32) := by
    apply BitVec.eq_of_getLsbD_eq
    intro i hi
    simp only [BitVec.getLsbD_xor, BitVec.getLsbD_and, BitVec.getLsbD_not, hi, decide_true, Bool.true_and]
    cases r.getLsbD i <;> cases (15#32).getLsbD i <;> rfl
  have h : bsN 4 (r &&& ~~~ 15#32) = r >>> 4 := by
    rw [bsN_shift 4 _ (fun i hi => by
      rw [BitVec.getLsbD_and, BitVec.getLsbD_not]
      rcases (by omega : i = 0 ∨ i = 1 ∨ i = 2 ∨ i = 3) with h | h | h | h <;> subst h <;> simp)]
    apply BitVec.eq_of_getLsbD_eq
    intro i hi
    rw [BitVec.getLsbD_ushiftRight, BitVec.getLsbD_ushiftRight, BitVec.getLsbD_and, BitVec.getLsbD_not]
    by_cases h : 4 + i < 32
    · have : (15#32).getLsbD (4 + i) = false := by
        rw [show (15#32) = BitVec.ofNat 32 15 from rfl, BitVec.getLsbD_ofNat]
        have : Nat.testBit 15 (4 + i) = false := Nat.testBit_lt_two_pow (by have : 2 ^ 4 ≤ 2 ^ (4 + i) := Nat.pow_le_pow_right (by decide) (by omega); omega)
        rw [this, Bool.and_false]
      rw [this, decide_eq_true h]; cases r.getLsbD (4 + i) <;> rfl
    · rw [BitVec.getLsbD_of_ge r _ (by omega)]; simp
  conv => lhs; rw [e]
  rw [bsN_xor, h]
/-- The table of four bits. -/
def tab (i : Nat) : BitVec 32 := bsN 4 (BitVec.ofNat 32 i)
theorem tab_go (r : BitVec 32) : bits .xor .u32 (rnum r / 16) (rnum (tab (r &&& 15#32).toNat)) = rnum (bsN 4 r) := by
  rw [u32_xor, ofInt_u32, show (16 : Int) = 2 ^ 4 from rfl, u32_shr, ofInt_u32, nibble r]
  unfold tab
  rw [BitVec.ofNat_toNat]; simp
theorem and_15 (r : BitVec 32) : bits .and .u32 (rnum r) 15 = ((r &&& 15#32).toNat : Int) := by rw [u32_and', ofInt_u32]; rfl
theorem and_15_lt (r : BitVec 32) : (r &&& 15#32).toNat < 16 := by
  rw [BitVec.toNat_and]; exact Nat.lt_of_le_of_lt Nat.and_le_right (by decide)

theorem not_go (r : BitVec 32) : bits .xor .u32 IntKind.u32.max (rnum r) = rnum (~~~ r) := by
  rw [u32_xor, ofInt_u32, show BitVec.ofInt 32 IntKind.u32.max = BitVec.allOnes 32 from by decide, BitVec.xor_comm, BitVec.xor_allOnes]
/-- Mixed by exclusive or. -/
def mix3 (a b c : List Int) : List Int := List.zipWith (fun x p => bits .xor .u8 (bits .xor .u8 x p.1) p.2) a (b.zip c)
end Go.Proofs.Ytlhpdkapddnbcaa

namespace Go.Proofs.Ytlhpdkapddnbcaa
open Go.RowKit
def Bytes (l : List Int) : Prop := ∀ x ∈ l, 0 ≤ x ∧ x ≤ 255
theorem Bytes.at {l : List Int} (h : Bytes l) (i : Nat) : 0 ≤ nth l i ∧ nth l i ≤ 255 := by
  by_cases hi : i < l.length
  · rw [nth_eq hi]; exact h _ (List.getElem_mem _)
  · rw [nth_out (by omega)]; omega
theorem RdAt.bytes {w : World} {a : Option Addr} {n c : Nat} {l : List Int} (h : RdAt .u8 w a n c l) : Bytes l := fun x hx => wf_u8_bd (h.wf x hx)
theorem lit_rd (w w' : World) (l : List Int) (e : Nat) (fr : Nat × Nat) (hl : l.length ≤ 1000) (hw : ∀ x ∈ l, (Lit.int .u8 x).wf = true) (hb : Below (w.alloc (.cells (l.map (Value.int .u8)).toArray e fr)).heap.size (w.alloc (.cells (l.map (Value.int .u8)).toArray e fr)) w') :
    RdAt .u8 w' (some ⟨w.heap.size, 0, none⟩) l.length l.length l := by
  refine RdAt.below ⟨rfl, Nat.le_refl _, by unfold maxLen; omega, fun i hi => ⟨_, _, rfl, ?_⟩, hw, fun h => by cases h⟩ hb
  rw [Nat.zero_add, World.cell?_alloc_mark]
  rw [nth_eq hi]
  simp [hi]

end Go.Proofs.Ytlhpdkapddnbcaa
