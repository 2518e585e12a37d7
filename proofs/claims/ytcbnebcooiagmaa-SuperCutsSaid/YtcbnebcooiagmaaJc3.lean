/- Joined: disk: what writes a disk's own blocks: settle, Cut, Flush. Opening a slice of bools. Plain laws on bits of bytes: Field, Get. No program in sight. Contracts of ints.ReadVar and of the reference's. What a reader of records tells: plain laws. No program in sight. Contracts of ints.Zig, Zag and of the references'. -/
import Derived.Test.YtcbnebcooiagmaaJc2
import Derived.RegionTactic
import Derived.Deep.Grids
import Derived.Test.YtcbnebcooiagmaaJc1
import Derived.Test.YtcbnebcooiagmaaProg
import Derived.WalkKit
import Derived.ProofKit
import Derived.Lib.Hide
namespace Go.Proofs.Ytcbnebcooiagmaa
open Go.RowKit
theorem cellsD {w : World} {b T : Nat} {x0 x1 x2 x3 x4 x5 x6 x7 x8 : Value} (h : w.heap[b]? = some (.cells #[x0, x1, x2, x3, x4, x5, x6, x7, x8] T (0, 0))) : w.cell? ⟨b, 0, none⟩ = some x0 ∧ w.cell? ⟨b, 1, none⟩ = some x1 ∧ w.cell? ⟨b, 2, none⟩ = some x2 ∧ w.cell? ⟨b, 3, none⟩ = some x3 ∧ w.cell? ⟨b, 4, none⟩ = some x4 ∧ w.cell? ⟨b, 5, none⟩ = some x5 ∧ w.cell? ⟨b, 6, none⟩ = some x6 ∧ w.cell? ⟨b, 7, none⟩ = some x7 ∧ w.cell? ⟨b, 8, none⟩ = some x8 ∧ ∀ i, w.frozen? ⟨b, i, none⟩ = false := by
  refine ⟨?_, ?_, ?_, ?_, ?_, ?_, ?_, ?_, ?_, fun i => frozen_of_row w b i _ _ h⟩ <;> simp [World.cell?, h]
theorem owns_shape {w : World} {e : TypeId} {size n : Nat} {v : Value} {xs : List Value} (h : w.ownsRow 0 e size v n xs) : ∃ a c, v = .slice a n c := by
  rcases h.2 with ⟨h1, h2⟩ | ⟨g, cap, cur, hv, _⟩
  · exact ⟨none, 0, by rw [h1, h2]⟩
  · exact ⟨_, _, hv⟩
theorem grown_at {w w' : World} {h k : Nat} {o : Obj} (ho : w.heap[k]? = some o) (hg : w.grownBy w' (some h)) (hk : k ≠ h) : w'.heap[k]? = some o := by
  rw [hg.block k (Array.getElem?_eq_some_iff.1 ho).1 (fun e => hk (Option.some.inj e))]; exact ho
theorem grown_put {w wr w2 : World} {kb : Nat} (h : w.grownBy wr (some kb)) (hb : Below wr.heap.size wr w2) (kb' sn : Nat) (v : Value) (hk : kb' = kb := by rfl) : w.grownBy (w2.setCell ⟨kb', sn, none⟩ v).drew (some kb) := by
  subst hk
  refine ⟨hb.os.trans h.os, hb.tape.trans h.tape, hb.output.trans h.output, Nat.le_trans h.size (by have := hb.size; simpa [World.drew] using this), fun x hx hne => ?_⟩
  show (w2.setCell ⟨kb', sn, none⟩ v).heap[x]? = _
  rw [heap_setCell_other w2 ⟨kb', sn, none⟩ x _ (fun e => hne (by rw [show x = kb' from e])), hb.block x (Nat.lt_of_lt_of_le hx h.size)]
  exact h.block x hx hne
theorem pendC_at : ∀ {p : List (Int × List Int)} {vs : List Value} {k : Nat} {v : Value} {x : Int × List Int}, vs[k]? = some v → p[k]? = some x → (pendC p vs)[2 * k]? = some (.int .i64 x.1) ∧ (pendC p vs)[2 * k + 1]? = some v
  | [], _, k, v, x, _, h => by simp at h
  | _ :: _, [], k, v, x, h, _ => by simp at h
  | p :: r, u :: t, 0, v, x, h1, h2 => by
    simp at h1 h2
    subst h1 h2
    exact ⟨rfl, rfl⟩
  | p :: r, u :: t, k + 1, v, x, h1, h2 => by
    have := pendC_at (p := r) (vs := t) (k := k) (by simpa using h1) (by simpa using h2)
    rw [show 2 * (k + 1) = 2 * k + 1 + 1 by omega]
    exact this
theorem pend_cells {w : World} {pv : Value} {p : List (Int × List Int)} {vs : List Value} {k : Nat} {v : Value} {x : Int × List Int} (h : w.ownsRow 0 114 2 pv p.length (pendC p vs)) (hv : vs[k]? = some v) (hx : p[k]? = some x) (hk : k < p.length) :
    ∃ g, (∃ c, pv = .slice (some ⟨g, 0, none⟩) p.length c) ∧ w.cell? ⟨g, 2 * k, none⟩ = some (.int .i64 x.1) ∧ w.cell? ⟨g, 2 * k + 1, none⟩ = some v := by
  obtain ⟨h1, h2⟩ := pendC_at hv hx
  rcases h.2 with ⟨h3, h4⟩ | ⟨g, cap, cur, hpv, h0, hh, h5⟩
  · omega
  · subst hpv
    exact ⟨g, ⟨cap, rfl⟩, by rw [h.cellAt (2 * k) (by omega)]; exact h1, by rw [h.cellAt (2 * k + 1) (by omega)]; exact h2⟩
set_option maxRecDepth 100000 in
theorem flush1_any (k : Int) (w : World) : Calls Try.prog 69 #[.int .i64 k] w fun e w' => e = .returned (.bool true) ∧ w = w' := by
  go_enter Try.func69, Try.ntmps69
  go_wp2
  go_ret
  exact ⟨rfl, rfl⟩
set_option linter.unusedSimpArgs false in
set_option linter.unusedVariables false in
set_option maxRecDepth 100000 in
set_option maxHeartbeats 2000000 in
theorem settle_all (Z : Nat → Prop) (d kb mb : Nat) (pv kv : Value) (vals pvs : List Value) (st : Dk) (w : World) (p : DkP w Z d kb mb pv kv vals pvs st) (hz : ∀ k, Z k → k < w.heap.size) :
    Calls Try.prog 66 #[.pointer (some ⟨d, 0, none⟩), (.func (.func 69) #[] #[])] w fun e w' => e = .returned (.tuple #[]) ∧ DkIn w' Z d { st with kept := settleK (fun _ => true) 0 st.pend st.kept, pend := [] } ∧ Tnd Z Z w w' := by
  obtain ⟨c0, c1, c2, c3, c4, c5, c6, c7, c8, cf⟩ := cellsD p.row
  have P := Lib.hid p
  have hpl : ∃ a c, pv = .slice a st.pend.length c := owns_shape p.prow
  obtain ⟨pa, pc, hpv⟩ := hpl
  have hfew := p.ok.few
  have hne := p.ne
  have hrm := p.rm
  have hZm := p.z
  obtain ⟨n, hn⟩ : ∃ n, st.pend.length = n := ⟨_, rfl⟩
  have HN := Lib.hid hn
  rw [hn] at hpv hfew
  have HPV := Lib.hid hpv
  rw [hpv] at c5
  clear p hpv hn
  go_enter Try.func66, Try.ntmps66
  go_wp2_with fail
  go_loopw [11] (fun i wr => ∃ (k : Nat) (vals' : List Value) (kept' : List (List Int)), k ≤ n ∧ i = .int .i64 k ∧ wr.heap[kb]? = some (.cells vals'.toArray 29 (0, 0)) ∧ All2 (SecV wr (MutD d kb mb pv) Z st.size) vals' kept' ∧ Hid (settleK (fun _ => true) k (st.pend.drop k) kept' = settleK (fun _ => true) 0 st.pend st.kept) ∧ w.grownBy wr (some kb) ∧ kept'.length = st.kept.length ∧ (∀ l ∈ kept', l.length = st.size)) (fun i _ => n - (intOf i).toNat)
  case atStart => exact ⟨0, vals, st.kept, by omega, rfl, P.out.krow, P.out.kvals, rfl, World.grownBy.refl _ _, rfl, P.out.ok.kept⟩
  case round =>
    clear c0 c1 c2 c3 c4 c5 c6 c7 c8 cf
    obtain ⟨k, vals', kept', hk, rfl, hkr, hkv, HS, hg, hkl, hks⟩ := hrel
    have hrow := grown_at P.out.row hg hne.1
    obtain ⟨c0, c1, c2, c3, c4, c5, c6, c7, c8, cf⟩ := cellsD hrow
    have HKR := Lib.hid hkr
    have HKV := Lib.hid hkv
    have HG := Lib.hid hg
    have HKL := Lib.hid hkl
    have HKS := Lib.hid hks
    have hkf : ∀ i, wr.frozen? ⟨kb, i, none⟩ = false := fun i => frozen_of_row wr _ i _ _ hkr
    clear hkr hkv hg hkl hks hrow
    by_cases hp : k < n
    · obtain ⟨⟨s, b⟩, hpk⟩ : ∃ x, st.pend[k]? = some x := ⟨_, List.getElem?_eq_getElem (by rw [HN.out]; exact hp)⟩
      obtain ⟨v, hvk, hv⟩ := P.out.pvals.get hpk
      obtain ⟨g, ga, hgc1, hgc2⟩ := pend_cells P.out.prow hvk hpk (by rw [HN.out]; exact hp)
      obtain ⟨b9, o9, n9, c9, rfl, hr9, hn9, hm9, hz9⟩ := hv
      have hpok := P.out.ok.pend _ (List.mem_of_getElem? hpk)
      obtain ⟨hp1, hp2, hp3⟩ := hpok
      obtain ⟨sn, rfl⟩ := Int.eq_ofNat_of_zero_le (show 0 ≤ s from hp2)
      have hdr : st.pend.drop k = ((sn : Int), b) :: st.pend.drop (k + 1) := by
        rw [List.drop_eq_getElem_cons (by rw [HN.out]; exact hp)]
        congr 1
        have := List.getElem?_eq_getElem (l := st.pend) (i := k) (by rw [HN.out]; exact hp)
        rw [this] at hpk
        injection hpk
      obtain ⟨cg, hpv'⟩ := ga
      rw [HN.out, HPV.out] at hpv'
      injection hpv' with q1 q2 q3
      subst q1 q3
      have hgd := hrm g (by rw [HPV.out]; rfl)
      have hgw : wr.cell? ⟨g, k * 2, none⟩ = some (.int .i64 (sn : Int)) := by
        rw [show k * 2 = 2 * k by omega]
        exact HG.out.cell hgc1 (fun e => hgd.2.1 (Option.some.inj e))
      have hgw2 : wr.cell? ⟨g, k * 2 + 1, none⟩ = some (.slice (some ⟨b9, o9, none⟩) n9 c9) := by
        rw [show k * 2 + 1 = 2 * k + 1 by omega]
        exact HG.out.cell hgc2 (fun e => hgd.2.1 (Option.some.inj e))
      have HDR := Lib.hid hdr
      have HPK := Lib.hid hpk
      have HP1 := Lib.hid hp1
      have HR9 := Lib.hid (RdAt.at (w' := wr) hr9 (HG.out.block b9 (hz b9 hz9) (fun e => hm9 (.inr (.inl (Option.some.inj e))))))
      have hsnl : sn < st.kept.length := by omega
      have hsn2 : sn < kept'.length := by rw [HKL.out]; exact hsnl
      have hkb1 : kb < wr.heap.size := (Array.getElem?_eq_some_iff.1 HKR.out).1
      have hd1 : d < wr.heap.size := Nat.lt_of_lt_of_le (hz d (hZm d (.inl rfl))) HG.out.size
      have hkvlen := HKV.out.1
      have HVL := Lib.hid hkvlen
      clear hgc1 hgc2 hdr hpk hp1 hvk hr9 hkvlen hp2
      go_wp2_with fail
      obtain ⟨w2, hw2⟩ : ∃ w2, wr.alloc (.cells #[.int .i64 (sn : Int), .slice (some ⟨b9, o9, none⟩) n9 c9] 114) = w2 := ⟨_, rfl⟩
      have hb2 : Below wr.heap.size wr w2 := by rw [← hw2]; exact (Below.refl _ _).alloc (Nat.le_refl _) _
      have ht5 : w2.heap[wr.heap.size]? = some (.cells #[.int .i64 (sn : Int), .slice (some ⟨b9, o9, none⟩) n9 c9] 114 (0, 0)) := by rw [← hw2]; exact heap_alloc_new _ _
      rw [hw2]
      clear hw2
      have t50 : w2.cell? ⟨wr.heap.size, 0, none⟩ = some (.int .i64 (sn : Int)) := by rw [cell_of_row w2 _ _ _ _ _ ht5]; rfl
      have t51 : w2.cell? ⟨wr.heap.size, 1, none⟩ = some (.slice (some ⟨b9, o9, none⟩) n9 c9) := by rw [cell_of_row w2 _ _ _ _ _ ht5]; rfl
      have hrow2 := row_keep (grown_at P.out.row HG.out hne.1) hb2
      have hkr2 := row_keep HKR.out hb2
      obtain ⟨y0, y1, y2, y3, y4, y5, y6, y7, y8, yf⟩ := cellsD hrow2
      have hkf2 : ∀ i, w2.frozen? ⟨kb, i, none⟩ = false := fun i => frozen_of_row w2 _ i _ _ hkr2
      have hkc2 : w2.cell? ⟨kb, sn, none⟩ = some (vals'[sn]'(by rw [HVL.out]; exact hsn2)) := by
        rw [cell_of_row w2 _ _ _ _ _ hkr2]
        simp [show sn < vals'.length by rw [HVL.out]; exact hsn2]
      have HKR2 := Lib.hid hkr2
      have HB2 := Lib.hid hb2
      have htn : wr.heap.size ≠ kb := by omega
      obtain ⟨tb, htb⟩ : ∃ tb, wr.heap.size = tb := ⟨_, rfl⟩
      rw [htb] at t50 t51 htn
      rw [htb]
      clear c0 c1 c2 c3 c4 c5 c6 c7 c8 cf hkf ht5 hrow2 hkr2 hb2 hgw hgw2 htb
      refine (flush1_any k _).mono ?_
      rintro e w3 ⟨rfl, rfl⟩
      go_wp2_with fail
      go_region
      go_wp2_with fail
      have HNX : Hid (settleK (fun _ => true) (k + 1) (st.pend.drop (k + 1)) (kept'.set sn b) = settleK (fun _ => true) 0 st.pend st.kept) := by
        show _ = _
        rw [← HS.out, HDR.out, settleK]
        rfl
      have hoth : ∀ x, Z x → ¬ MutD d kb mb pv x → (w2.setCell ⟨kb, sn, none⟩ (.slice (some ⟨b9, o9, none⟩) n9 c9)).drew.heap[x]? = wr.heap[x]? := by
        intro x hx hm
        show (w2.setCell ⟨kb, sn, none⟩ _).heap[x]? = _
        rw [heap_setCell_other w2 ⟨kb, sn, none⟩ x _ (fun e => hm (.inr (.inl e))), HB2.out.block x (Nat.lt_of_lt_of_le (hz x hx) HG.out.size)]
      have hk3 : (w2.setCell ⟨kb, sn, none⟩ (.slice (some ⟨b9, o9, none⟩) n9 c9)).drew.heap[kb]? = some (.cells (vals'.set sn (.slice (some ⟨b9, o9, none⟩) n9 c9)).toArray 29 (0, 0)) := by
        show (w2.setCell ⟨kb, sn, none⟩ _).heap[kb]? = _
        rw [heap_setCell_same w2 kb sn _ _ _ HKR2.out]
        simp
      have hv3 : All2 (SecV (w2.setCell ⟨kb, sn, none⟩ (.slice (some ⟨b9, o9, none⟩) n9 c9)).drew (MutD d kb mb pv) Z st.size) (vals'.set sn (.slice (some ⟨b9, o9, none⟩) n9 c9)) (kept'.set sn b) :=
        (HKV.out.imp fun v l h => h.at hoth (fun _ _ h => h) (fun _ h => h)).set sn (.inr ⟨b9, o9, n9, c9, rfl, HR9.out.at (hoth b9 hz9 hm9), hn9, hm9, hz9⟩)
      have hg3 : w.grownBy (w2.setCell ⟨kb, sn, none⟩ (.slice (some ⟨b9, o9, none⟩) n9 c9)).drew (some kb) := grown_put HG.out HB2.out kb sn _
      have hl3 : ∀ l ∈ kept'.set sn b, l.length = st.size := fun l hl => by
        rcases List.mem_or_eq_of_mem_set hl with h | h
        · exact HKS.out l h
        · rw [h]; exact HP1.out
      have HK3 := Lib.hid hk3
      have HV3 := Lib.hid hv3
      have HG3 := Lib.hid hg3
      have HL3 := Lib.hid hl3
      clear hk3 hv3 hg3 hl3 hoth
      go_roundw
      case rel => exact ⟨k + 1, vals'.set sn (.slice (some ⟨b9, o9, none⟩) n9 c9), kept'.set sn b, by omega, by go_num, HK3.out, HV3.out, HNX, HG3.out, by rw [List.length_set]; exact HKL.out, HL3.out⟩
      case measure => simp [intOf] <;> omega

    · obtain rfl : k = n := by omega
      have hK : settleK (fun _ => true) 0 st.pend st.kept = kept' := by
        rw [← HS.out, List.drop_of_length_le (by rw [HN.out]; exact Nat.le_refl _)]
        rfl
      have HK := Lib.hid hK
      have hdlt : d < wr.heap.size := Nat.lt_of_lt_of_le (hz d (hZm d (.inl rfl))) HG.out.size
      have hm1 : MapAt (wr.setCell ⟨d, 5, none⟩ (.slice none 0 0)) mb (lastOf st.pend) := P.out.map.at (by
        rw [heap_setCell_other wr ⟨d, 5, none⟩ mb _ (fun e => hne.2.1 e.symm)]
        exact HG.out.block mb (hz mb (hZm mb (.inr (.inr (.inl rfl))))) (fun e => hne.2.2 (Option.some.inj e).symm))
      obtain ⟨vc, w5, hrun, hmap5, hg5⟩ := map_clear hm1 0
      have HM5 := Lib.hid hmap5
      have HG5 := Lib.hid hg5
      have hrow := grown_at P.out.row HG.out hne.1
      have HROW := Lib.hid hrow
      clear hK hm1 hmap5 hg5 hrow
      go_wp2_with fail
      go_end0
      rw [HK.out]
      have hoth : ∀ x, Z x → ¬ MutD d kb mb pv x → w5.heap[x]? = wr.heap[x]? := fun x hx hm => by
        rw [HG5.out.block x (by simp; exact Nat.lt_of_lt_of_le (hz x hx) HG.out.size) (fun e => hm (.inr (.inr (.inl (Option.some.inj e))))), heap_setCell_other wr ⟨d, 5, none⟩ x _ (fun e => hm (.inl e))]
      have hM : ∀ x, Z x → ¬ MutD d kb mb pv x → ¬ MutD d kb mb (.slice none 0 0) x := fun x _ hm h => by
        rcases h with h | h | h | h
        · exact hm (.inl h)
        · exact hm (.inr (.inl h))
        · exact hm (.inr (.inr (.inl h)))
        · cases h
      refine ⟨rfl, ⟨fun x hx => ?_, kb, mb, .slice none 0 0, kv, vals', [], ?_⟩, ⟨HG5.out.os.trans HG.out.os, HG5.out.tape.trans HG.out.tape, HG5.out.output.trans HG.out.output, ?_, fun x hx hzx => ?_, fun x h => .inl h⟩⟩
      · have := HG5.out.size
        simp at this
        exact Nat.lt_of_lt_of_le (hz x hx) (Nat.le_trans HG.out.size this)
      · refine ⟨?_, ?_, HKV.out.imp fun v l h => h.at hoth hM (fun _ h => h), World.ownsRow_nil _ _ _ _, All2.nil _, HM5.out.congr (fun _ => rfl), ?_, hne, (fun g hg => by cases hg), ?_, ?_⟩
        · rw [HG5.out.block d (by simpa using hdlt) (fun e => hne.2.1 (Option.some.inj e)), heap_setCell_same wr d 5 _ _ _ HROW.out]
          simp [HKL.out]
        · rw [HG5.out.block kb (by simpa using (Array.getElem?_eq_some_iff.1 HKR.out).1) (fun e => hne.2.2 (Option.some.inj e)), heap_setCell_other wr ⟨d, 5, none⟩ kb _ (fun e => hne.1 e.symm)]
          exact HKR.out
        · exact (P.out.keep.at (w' := wr) (fun x hx hm => HG.out.block x (hz x hx) (fun e => hm (.inr (.inl (Option.some.inj e))))) (fun _ _ h => h) (fun _ h => h)).at hoth hM (fun _ h => h)
        · intro x h
          rcases h with h | h | h | h
          · exact hZm x (.inl h)
          · exact hZm x (.inr (.inl h))
          · exact hZm x (.inr (.inr (.inl h)))
          · cases h
        · exact ⟨P.out.ok.size, by show 1 ≤ kept'.length ∧ kept'.length ≤ 65536; rw [HKL.out]; exact P.out.ok.n, HKS.out, (fun q hq => by cases hq), P.out.ok.armed, (by simp), P.out.ok.writes, P.out.ok.reads⟩
      · have := HG5.out.size
        simp at this
        exact Nat.le_trans HG.out.size this
      · have h1 : x ≠ d := fun e => hzx (by rw [e]; exact hZm d (.inl rfl))
        have h2 : x ≠ kb := fun e => hzx (by rw [e]; exact hZm kb (.inr (.inl rfl)))
        have h3 : x ≠ mb := fun e => hzx (by rw [e]; exact hZm mb (.inr (.inr (.inl rfl))))
        rw [HG5.out.block x (by simp; exact Nat.lt_of_lt_of_le hx HG.out.size) (fun e => h3 (Option.some.inj e)), heap_setCell_other wr ⟨d, 5, none⟩ x _ h1]
        exact HG.out.block x hx (fun e => h2 (Option.some.inj e))
theorem RdB.kept {w w' : World} {a : Option Addr} {n c : Nat} {l : List Bool} (r : RdB w a n c l) (h : ∀ x, a = some x → 0 < n → w'.heap[x.block]? = w.heap[x.block]?) : RdB w' a n c l :=
  ⟨r.len, r.cap, r.max, fun i hi => by
    obtain ⟨b, o, e, hc⟩ := r.cell i hi
    exact ⟨b, o, e, by rw [← hc]; exact World.cell?_of_block (a := ⟨b, o + i, none⟩) (h ⟨b, o, none⟩ e (by omega))⟩, r.void⟩
set_option maxRecDepth 100000 in
theorem cut1_any (q : Nat) (ka : Option Addr) (kn kc : Nat) (kl : List Bool) (k : Nat) (w : World) (hq : w.heap[q]? = some (.cells #[.slice ka kn kc] 61 (0, 0))) (hr : RdB w ka kn kc kl) :
    Calls Try.prog 67 #[.int .i64 k, .pointer (some ⟨q, 0, none⟩)] w fun e w' => e = .returned (.bool (kl.getD k false)) ∧ w = w' := by
  have cq : w.cell? ⟨q, 0, none⟩ = some (.slice ka kn kc) := by rw [cell_of_row w _ _ _ _ _ hq]; rfl
  have hlen := hr.len
  by_cases hk : k < kn
  · obtain ⟨b, o, rfl, hc⟩ := hr.cell k hk
    have d1 : decide ((k : Int) < kn) = true := decide_eq_true (by omega)
    have d2 : decide (k < kn) = true := decide_eq_true hk
    clear hr hq hlen
    go_enter Try.func67, Try.ntmps67
    go_wp2
    go_ret
    exact ⟨rfl, rfl⟩
  · have hf : kl.getD k false = false := by
      rw [List.getD_eq_getElem?_getD, List.getElem?_eq_none (by omega)]; rfl
    rw [hf]
    have d1 : decide ((k : Int) < kn) = false := decide_eq_false (by omega)
    have d2 : decide (k < kn) = false := decide_eq_false hk
    clear hr hq hlen hf
    go_enter Try.func67, Try.ntmps67
    go_wp2
    go_ret
    exact ⟨rfl, rfl⟩
set_option linter.unusedSimpArgs false in
set_option linter.unusedVariables false in
set_option maxRecDepth 100000 in
set_option maxHeartbeats 2000000 in
theorem settle_cut (Z : Nat → Prop) (d kb mb : Nat) (pv kv : Value) (vals pvs : List Value) (st : Dk) (w : World) (p : DkP w Z d kb mb pv kv vals pvs st) (hz : ∀ k, Z k → k < w.heap.size) (q : Nat) (ka : Option Addr) (kn kc : Nat) (kl : List Bool) (hq : w.heap[q]? = some (.cells #[.slice ka kn kc] 61 (0, 0))) (kq : q ≠ kb) (hkr : RdB w ka kn kc kl) (hkz : ∀ x, ka = some x → 0 < kn → x.block < w.heap.size) (hkk : ∀ x, ka = some x → 0 < kn → x.block ≠ kb) :
    Calls Try.prog 66 #[.pointer (some ⟨d, 0, none⟩), (.func (.func 67) #[] #[.pointer (some ⟨q, 0, none⟩)])] w fun e w' => e = .returned (.tuple #[]) ∧ DkIn w' Z d { st with kept := settleK (fun i => kl.getD i false) 0 st.pend st.kept, pend := [] } ∧ Tnd Z Z w w' := by
  obtain ⟨c0, c1, c2, c3, c4, c5, c6, c7, c8, cf⟩ := cellsD p.row
  have P := Lib.hid p
  have hpl : ∃ a c, pv = .slice a st.pend.length c := owns_shape p.prow
  obtain ⟨pa, pc, hpv⟩ := hpl
  have hfew := p.ok.few
  have hne := p.ne
  have hrm := p.rm
  have hZm := p.z
  obtain ⟨n, hn⟩ : ∃ n, st.pend.length = n := ⟨_, rfl⟩
  have HN := Lib.hid hn
  rw [hn] at hpv hfew
  have HPV := Lib.hid hpv
  rw [hpv] at c5
  clear p hpv hn
  go_enter Try.func66, Try.ntmps66
  go_wp2_with fail
  go_loopw [11] (fun i wr => ∃ (k : Nat) (vals' : List Value) (kept' : List (List Int)), k ≤ n ∧ i = .int .i64 k ∧ wr.heap[kb]? = some (.cells vals'.toArray 29 (0, 0)) ∧ All2 (SecV wr (MutD d kb mb pv) Z st.size) vals' kept' ∧ Hid (settleK (fun i => kl.getD i false) k (st.pend.drop k) kept' = settleK (fun i => kl.getD i false) 0 st.pend st.kept) ∧ w.grownBy wr (some kb) ∧ kept'.length = st.kept.length ∧ (∀ l ∈ kept', l.length = st.size)) (fun i _ => n - (intOf i).toNat)
  case atStart => exact ⟨0, vals, st.kept, by omega, rfl, P.out.krow, P.out.kvals, rfl, World.grownBy.refl _ _, rfl, P.out.ok.kept⟩
  case round =>
    clear c0 c1 c2 c3 c4 c5 c6 c7 c8 cf
    obtain ⟨k, vals', kept', hk, rfl, hkr, hkv, HS, hg, hkl, hks⟩ := hrel
    have hrow := grown_at P.out.row hg hne.1
    obtain ⟨c0, c1, c2, c3, c4, c5, c6, c7, c8, cf⟩ := cellsD hrow
    have HKR := Lib.hid hkr
    have HKV := Lib.hid hkv
    have HG := Lib.hid hg
    have HKL := Lib.hid hkl
    have HKS := Lib.hid hks
    have hkf : ∀ i, wr.frozen? ⟨kb, i, none⟩ = false := fun i => frozen_of_row wr _ i _ _ hkr
    clear hkr hkv hg hkl hks hrow
    by_cases hp : k < n
    · obtain ⟨⟨s, b⟩, hpk⟩ : ∃ x, st.pend[k]? = some x := ⟨_, List.getElem?_eq_getElem (by rw [HN.out]; exact hp)⟩
      obtain ⟨v, hvk, hv⟩ := P.out.pvals.get hpk
      obtain ⟨g, ga, hgc1, hgc2⟩ := pend_cells P.out.prow hvk hpk (by rw [HN.out]; exact hp)
      obtain ⟨b9, o9, n9, c9, rfl, hr9, hn9, hm9, hz9⟩ := hv
      have hpok := P.out.ok.pend _ (List.mem_of_getElem? hpk)
      obtain ⟨hp1, hp2, hp3⟩ := hpok
      obtain ⟨sn, rfl⟩ := Int.eq_ofNat_of_zero_le (show 0 ≤ s from hp2)
      have hdr : st.pend.drop k = ((sn : Int), b) :: st.pend.drop (k + 1) := by
        rw [List.drop_eq_getElem_cons (by rw [HN.out]; exact hp)]
        congr 1
        have := List.getElem?_eq_getElem (l := st.pend) (i := k) (by rw [HN.out]; exact hp)
        rw [this] at hpk
        injection hpk
      obtain ⟨cg, hpv'⟩ := ga
      rw [HN.out, HPV.out] at hpv'
      injection hpv' with q1 q2 q3
      subst q1 q3
      have hgd := hrm g (by rw [HPV.out]; rfl)
      have hgw : wr.cell? ⟨g, k * 2, none⟩ = some (.int .i64 (sn : Int)) := by
        rw [show k * 2 = 2 * k by omega]
        exact HG.out.cell hgc1 (fun e => hgd.2.1 (Option.some.inj e))
      have hgw2 : wr.cell? ⟨g, k * 2 + 1, none⟩ = some (.slice (some ⟨b9, o9, none⟩) n9 c9) := by
        rw [show k * 2 + 1 = 2 * k + 1 by omega]
        exact HG.out.cell hgc2 (fun e => hgd.2.1 (Option.some.inj e))
      have HDR := Lib.hid hdr
      have HPK := Lib.hid hpk
      have HP1 := Lib.hid hp1
      have HR9 := Lib.hid (RdAt.at (w' := wr) hr9 (HG.out.block b9 (hz b9 hz9) (fun e => hm9 (.inr (.inl (Option.some.inj e))))))
      have hsnl : sn < st.kept.length := by omega
      have hsn2 : sn < kept'.length := by rw [HKL.out]; exact hsnl
      have hkb1 : kb < wr.heap.size := (Array.getElem?_eq_some_iff.1 HKR.out).1
      have hd1 : d < wr.heap.size := Nat.lt_of_lt_of_le (hz d (hZm d (.inl rfl))) HG.out.size
      have hkvlen := HKV.out.1
      have HVL := Lib.hid hkvlen
      clear hgc1 hgc2 hdr hpk hp1 hvk hr9 hkvlen hp2
      go_wp2_with fail
      obtain ⟨w2, hw2⟩ : ∃ w2, wr.alloc (.cells #[.int .i64 (sn : Int), .slice (some ⟨b9, o9, none⟩) n9 c9] 114) = w2 := ⟨_, rfl⟩
      have hb2 : Below wr.heap.size wr w2 := by rw [← hw2]; exact (Below.refl _ _).alloc (Nat.le_refl _) _
      have ht5 : w2.heap[wr.heap.size]? = some (.cells #[.int .i64 (sn : Int), .slice (some ⟨b9, o9, none⟩) n9 c9] 114 (0, 0)) := by rw [← hw2]; exact heap_alloc_new _ _
      rw [hw2]
      clear hw2
      have t50 : w2.cell? ⟨wr.heap.size, 0, none⟩ = some (.int .i64 (sn : Int)) := by rw [cell_of_row w2 _ _ _ _ _ ht5]; rfl
      have t51 : w2.cell? ⟨wr.heap.size, 1, none⟩ = some (.slice (some ⟨b9, o9, none⟩) n9 c9) := by rw [cell_of_row w2 _ _ _ _ _ ht5]; rfl
      have hrow2 := row_keep (grown_at P.out.row HG.out hne.1) hb2
      have hkr2 := row_keep HKR.out hb2
      obtain ⟨y0, y1, y2, y3, y4, y5, y6, y7, y8, yf⟩ := cellsD hrow2
      have hkf2 : ∀ i, w2.frozen? ⟨kb, i, none⟩ = false := fun i => frozen_of_row w2 _ i _ _ hkr2
      have hkc2 : w2.cell? ⟨kb, sn, none⟩ = some (vals'[sn]'(by rw [HVL.out]; exact hsn2)) := by
        rw [cell_of_row w2 _ _ _ _ _ hkr2]
        simp [show sn < vals'.length by rw [HVL.out]; exact hsn2]
      have HKR2 := Lib.hid hkr2
      have HB2 := Lib.hid hb2
      have htn : wr.heap.size ≠ kb := by omega
      obtain ⟨tb, htb⟩ : ∃ tb, wr.heap.size = tb := ⟨_, rfl⟩
      rw [htb] at t50 t51 htn
      rw [htb]
      clear c0 c1 c2 c3 c4 c5 c6 c7 c8 cf hkf ht5 hrow2 hkr2 hb2 hgw hgw2 htb
      have hq2 := row_keep (grown_at hq HG.out kq) HB2.out
      have hk2 := (RdB.kept hkr (fun x hx hn0 => by rw [HB2.out.block x.block (Nat.lt_of_lt_of_le (hkz x hx hn0) HG.out.size)]; exact HG.out.block x.block (hkz x hx hn0) (fun e => hkk x hx hn0 (Option.some.inj e))) : RdB w2 ka kn kc kl)
      refine (cut1_any q ka kn kc kl k _ hq2 hk2).mono ?_
      rintro e w3 ⟨rfl, rfl⟩
      clear hq2 hk2
      by_cases hkk2 : kl.getD k false = true
      · have HKK := Lib.hid hkk2
        rw [HKK.out]
        clear hkk2
        go_wp2_with fail
        go_region
        go_wp2_with fail
        have HNX : Hid (settleK (fun i => kl.getD i false) (k + 1) (st.pend.drop (k + 1)) (kept'.set sn b) = settleK (fun i => kl.getD i false) 0 st.pend st.kept) := by
          show _ = _
          rw [← HS.out, HDR.out, settleK, if_pos HKK.out]
          rfl
        have hoth : ∀ x, Z x → ¬ MutD d kb mb pv x → (w2.setCell ⟨kb, sn, none⟩ (.slice (some ⟨b9, o9, none⟩) n9 c9)).drew.heap[x]? = wr.heap[x]? := by
          intro x hx hm
          show (w2.setCell ⟨kb, sn, none⟩ _).heap[x]? = _
          rw [heap_setCell_other w2 ⟨kb, sn, none⟩ x _ (fun e => hm (.inr (.inl e))), HB2.out.block x (Nat.lt_of_lt_of_le (hz x hx) HG.out.size)]
        have hk3 : (w2.setCell ⟨kb, sn, none⟩ (.slice (some ⟨b9, o9, none⟩) n9 c9)).drew.heap[kb]? = some (.cells (vals'.set sn (.slice (some ⟨b9, o9, none⟩) n9 c9)).toArray 29 (0, 0)) := by
          show (w2.setCell ⟨kb, sn, none⟩ _).heap[kb]? = _
          rw [heap_setCell_same w2 kb sn _ _ _ HKR2.out]
          simp
        have hv3 : All2 (SecV (w2.setCell ⟨kb, sn, none⟩ (.slice (some ⟨b9, o9, none⟩) n9 c9)).drew (MutD d kb mb pv) Z st.size) (vals'.set sn (.slice (some ⟨b9, o9, none⟩) n9 c9)) (kept'.set sn b) :=
          (HKV.out.imp fun v l h => h.at hoth (fun _ _ h => h) (fun _ h => h)).set sn (.inr ⟨b9, o9, n9, c9, rfl, HR9.out.at (hoth b9 hz9 hm9), hn9, hm9, hz9⟩)
        have hg3 : w.grownBy (w2.setCell ⟨kb, sn, none⟩ (.slice (some ⟨b9, o9, none⟩) n9 c9)).drew (some kb) := grown_put HG.out HB2.out kb sn _
        have hl3 : ∀ l ∈ kept'.set sn b, l.length = st.size := fun l hl => by
          rcases List.mem_or_eq_of_mem_set hl with h | h
          · exact HKS.out l h
          · rw [h]; exact HP1.out
        have HK3 := Lib.hid hk3
        have HV3 := Lib.hid hv3
        have HG3 := Lib.hid hg3
        have HL3 := Lib.hid hl3
        clear hk3 hv3 hg3 hl3 hoth
        go_roundw
        case rel => exact ⟨k + 1, vals'.set sn (.slice (some ⟨b9, o9, none⟩) n9 c9), kept'.set sn b, by omega, by go_num, HK3.out, HV3.out, HNX, HG3.out, by rw [List.length_set]; exact HKL.out, HL3.out⟩
        case measure => simp [intOf] <;> omega
      · have hkf0 : kl.getD k false = false := by simpa using hkk2
        have HKK := Lib.hid hkf0
        rw [HKK.out]
        clear hkk2 hkf0
        go_wp2_with fail
        have HNX : Hid (settleK (fun i => kl.getD i false) (k + 1) (st.pend.drop (k + 1)) kept' = settleK (fun i => kl.getD i false) 0 st.pend st.kept) := by
          show _ = _
          rw [← HS.out, HDR.out, settleK, if_neg (by rw [HKK.out]; decide)]
        have HK3 := Lib.hid HKR2.out
        have HV3 := Lib.hid (HKV.out.imp fun v l h => h.at (w' := w2) (fun x hx hm => HB2.out.block x (Nat.lt_of_lt_of_le (hz x hx) HG.out.size)) (fun _ _ h => h) (fun _ h => h))
        have HG3 : Hid (w.grownBy w2 (some kb)) := ⟨HB2.out.os.trans HG.out.os, HB2.out.tape.trans HG.out.tape, HB2.out.output.trans HG.out.output, Nat.le_trans HG.out.size HB2.out.size, fun x hx hne => by rw [HB2.out.block x (Nat.lt_of_lt_of_le hx HG.out.size)]; exact HG.out.block x hx hne⟩
        go_roundw
        case rel => exact ⟨k + 1, vals', kept', by omega, by go_num, HK3.out, HV3.out, HNX, HG3.out, HKL.out, HKS.out⟩
        case measure => simp [intOf] <;> omega

    · obtain rfl : k = n := by omega
      have hK : settleK (fun i => kl.getD i false) 0 st.pend st.kept = kept' := by
        rw [← HS.out, List.drop_of_length_le (by rw [HN.out]; exact Nat.le_refl _)]
        rfl
      have HK := Lib.hid hK
      have hdlt : d < wr.heap.size := Nat.lt_of_lt_of_le (hz d (hZm d (.inl rfl))) HG.out.size
      have hm1 : MapAt (wr.setCell ⟨d, 5, none⟩ (.slice none 0 0)) mb (lastOf st.pend) := P.out.map.at (by
        rw [heap_setCell_other wr ⟨d, 5, none⟩ mb _ (fun e => hne.2.1 e.symm)]
        exact HG.out.block mb (hz mb (hZm mb (.inr (.inr (.inl rfl))))) (fun e => hne.2.2 (Option.some.inj e).symm))
      obtain ⟨vc, w5, hrun, hmap5, hg5⟩ := map_clear hm1 0
      have HM5 := Lib.hid hmap5
      have HG5 := Lib.hid hg5
      have hrow := grown_at P.out.row HG.out hne.1
      have HROW := Lib.hid hrow
      clear hK hm1 hmap5 hg5 hrow
      go_wp2_with fail
      go_end0
      rw [HK.out]
      have hoth : ∀ x, Z x → ¬ MutD d kb mb pv x → w5.heap[x]? = wr.heap[x]? := fun x hx hm => by
        rw [HG5.out.block x (by simp; exact Nat.lt_of_lt_of_le (hz x hx) HG.out.size) (fun e => hm (.inr (.inr (.inl (Option.some.inj e))))), heap_setCell_other wr ⟨d, 5, none⟩ x _ (fun e => hm (.inl e))]
      have hM : ∀ x, Z x → ¬ MutD d kb mb pv x → ¬ MutD d kb mb (.slice none 0 0) x := fun x _ hm h => by
        rcases h with h | h | h | h
        · exact hm (.inl h)
        · exact hm (.inr (.inl h))
        · exact hm (.inr (.inr (.inl h)))
        · cases h
      refine ⟨rfl, ⟨fun x hx => ?_, kb, mb, .slice none 0 0, kv, vals', [], ?_⟩, ⟨HG5.out.os.trans HG.out.os, HG5.out.tape.trans HG.out.tape, HG5.out.output.trans HG.out.output, ?_, fun x hx hzx => ?_, fun x h => .inl h⟩⟩
      · have := HG5.out.size
        simp at this
        exact Nat.lt_of_lt_of_le (hz x hx) (Nat.le_trans HG.out.size this)
      · refine ⟨?_, ?_, HKV.out.imp fun v l h => h.at hoth hM (fun _ h => h), World.ownsRow_nil _ _ _ _, All2.nil _, HM5.out.congr (fun _ => rfl), ?_, hne, (fun g hg => by cases hg), ?_, ?_⟩
        · rw [HG5.out.block d (by simpa using hdlt) (fun e => hne.2.1 (Option.some.inj e)), heap_setCell_same wr d 5 _ _ _ HROW.out]
          simp [HKL.out]
        · rw [HG5.out.block kb (by simpa using (Array.getElem?_eq_some_iff.1 HKR.out).1) (fun e => hne.2.2 (Option.some.inj e)), heap_setCell_other wr ⟨d, 5, none⟩ kb _ (fun e => hne.1 e.symm)]
          exact HKR.out
        · exact (P.out.keep.at (w' := wr) (fun x hx hm => HG.out.block x (hz x hx) (fun e => hm (.inr (.inl (Option.some.inj e))))) (fun _ _ h => h) (fun _ h => h)).at hoth hM (fun _ h => h)
        · intro x h
          rcases h with h | h | h | h
          · exact hZm x (.inl h)
          · exact hZm x (.inr (.inl h))
          · exact hZm x (.inr (.inr (.inl h)))
          · cases h
        · exact ⟨P.out.ok.size, by show 1 ≤ kept'.length ∧ kept'.length ≤ 65536; rw [HKL.out]; exact P.out.ok.n, HKS.out, (fun q hq => by cases hq), P.out.ok.armed, (by simp), P.out.ok.writes, P.out.ok.reads⟩
      · have := HG5.out.size
        simp at this
        exact Nat.le_trans HG.out.size this
      · have h1 : x ≠ d := fun e => hzx (by rw [e]; exact hZm d (.inl rfl))
        have h2 : x ≠ kb := fun e => hzx (by rw [e]; exact hZm kb (.inr (.inl rfl)))
        have h3 : x ≠ mb := fun e => hzx (by rw [e]; exact hZm mb (.inr (.inr (.inl rfl))))
        rw [HG5.out.block x (by simp; exact Nat.lt_of_lt_of_le hx HG.out.size) (fun e => h3 (Option.some.inj e)), heap_setCell_other wr ⟨d, 5, none⟩ x _ h1]
        exact HG.out.block x hx (fun e => h2 (Option.some.inj e))
end Go.Proofs.Ytcbnebcooiagmaa
namespace Go.Proofs.Ytcbnebcooiagmaa
open Go.RowKit
theorem bools_open {H : Type} {enc : TypeId × Value → H} {P : Program} {w : World} {base : Nat} {held : Bool} {t e : TypeId} {a : Option Addr} {len cap : Nat} {d : DataW H} {p : List MemPlace} (ht : P.underlying t = some (.slice e)) (he : P.underlying e = some .bool) (hc : P.cellsOf e = 1)
    (h : ∃ n, DataW.trod enc P w base (fun _ => true) held n t (Value.slice a len cap).cells.toList = some (d, p)) : ∃ z, RdB w a len cap z := by
  obtain ⟨n, hn⟩ := h
  rcases Go.Deep.open_bools ht he hc hn with ⟨hcs, _⟩ | ⟨x, l, c, B, hcs, _, hl, hm, _, hcell⟩
  · simp [Value.cells] at hcs
    obtain ⟨rfl, rfl, rfl⟩ := hcs
    exact ⟨[], rfl, Nat.le_refl _, by unfold maxLen; omega, fun i hi => by omega, fun _ => rfl⟩
  · simp [Value.cells] at hcs
    obtain ⟨rfl, rfl, rfl⟩ := hcs
    refine ⟨(List.range len).map B, by simp, hl, hm, fun i hi => ?_, fun h => by cases h⟩
    obtain ⟨b, o, sp⟩ := x
    have h0 := hcell 0 (by omega)
    have hsp : sp = none := by simpa [Addr.add] using World.cell?_spot h0
    subst hsp
    refine ⟨b, o, rfl, ?_⟩
    have := hcell i (by omega)
    rw [List.getD_eq_getElem?_getD, List.getElem?_map, List.getElem?_range hi]
    rw [show (Addr.mk b o none).add i = ⟨b, o + i, none⟩ by simp [Addr.add] <;> omega] at this
    simpa using this
theorem RdB.lt {w : World} {a : Option Addr} {n c : Nat} {l : List Bool} (h : RdB w a n c l) : ∀ x, a = some x → 0 < n → x.block < w.heap.size := fun x hx hn => by
  obtain ⟨b, o, e, hc⟩ := h.cell 0 hn
  rw [hx] at e
  injection e with e
  subst e
  exact block_lt_of_cell hc
end Go.Proofs.Ytcbnebcooiagmaa
namespace Go.Proofs.Ytcbnebcooiagmaa
open Go.RowKit

def bitAt (l : List Int) (j : Nat) : Int := nth l (j / 8) / 2 ^ (j % 8) % 2
def fieldK (l : List Int) (p : Nat) : Nat → Int
  | 0 => 0
  | k + 1 => fieldK l p k + bitAt l (p + k) * 2 ^ k
def getK (l : List Int) : Nat → Int
  | 0 => 0
  | k + 1 => getK l k + nth l k * 2 ^ (8 * k)

theorem bitAt_bd (l : List Int) (j : Nat) : 0 ≤ bitAt l j ∧ bitAt l j ≤ 1 := by
  unfold bitAt
  have h0 : 0 ≤ nth l (j / 8) / 2 ^ (j % 8) % 2 := Int.emod_nonneg _ (by omega)
  have h1 : nth l (j / 8) / 2 ^ (j % 8) % 2 < 2 := Int.emod_lt_of_pos _ (by omega)
  omega
theorem fieldK_bd (l : List Int) (p : Nat) : ∀ k, 0 ≤ fieldK l p k ∧ fieldK l p k < 2 ^ k
  | 0 => by simp [fieldK]
  | k + 1 => by
    have ih := fieldK_bd l p k
    have hb := bitAt_bd l (p + k)
    have e : (2 : Int) ^ (k + 1) = 2 ^ k * 2 := Int.pow_succ _ _
    unfold fieldK
    rcases (by omega : bitAt l (p + k) = 0 ∨ bitAt l (p + k) = 1) with h | h <;> rw [h, e] <;> omega
theorem fieldK_low (l : List Int) : ∀ (k p : Nat), fieldK l p (k + 1) = bitAt l p + 2 * fieldK l (p + 1) k
  | 0, p => by simp [fieldK]
  | k + 1, p => by
    have ih := fieldK_low l k p
    have e : (2 : Int) ^ (k + 1) = 2 * 2 ^ k := by rw [Int.pow_succ]; omega
    rw [fieldK, ih, fieldK, e, show p + 1 + k = p + (k + 1) by omega, Int.mul_add, Int.add_assoc, Int.mul_left_comm]
theorem fieldK_split (l : List Int) (p n : Nat) : ∀ m, fieldK l p (n + m) = fieldK l p n + fieldK l (p + n) m * 2 ^ n
  | 0 => by simp [fieldK]
  | m + 1 => by
    have ih := fieldK_split l p n m
    rw [← Nat.add_assoc, fieldK, ih, fieldK, Int.add_mul, Int.add_assoc, Int.pow_add, Nat.add_assoc, Int.mul_assoc, Int.mul_comm (2 ^ n)]
theorem field_one (x : Int) (k : Nat) (h1 : 0 ≤ x) (h2 : x ≤ 1) (hk : k ≤ 63) : IntKind.u64.wrap (x * 2 ^ k) = x * 2 ^ k := by
  have hp := pow_le_of hk
  have hp1 : (1 : Int) ≤ 2 ^ k := by exact_mod_cast Nat.one_le_two_pow
  refine IntWalk.u64_in _ ?_
  rcases (by omega : x = 0 ∨ x = 1) with h | h <;> rw [h] <;> omega
theorem field_go (l : List Int) (p k : Nat) (hk : k ≤ 63) :
    bits .or .u64 (fieldK l p k) (bitAt l (p + k) * 2 ^ k) = fieldK l p (k + 1) := by
  have hb := bitAt_bd l (p + k)
  have hf := fieldK_bd l p k
  have hp := pow_le_of hk
  have hp1 : (1 : Int) ≤ 2 ^ k := by exact_mod_cast Nat.one_le_two_pow
  rw [fieldK]
  have e : bits .or .u64 (fieldK l p k) (bitAt l (p + k) * 2 ^ k) = bits .or .u64 (bitAt l (p + k) * 2 ^ k) (fieldK l p k) := by
    unfold bits; simp only; rw [BitVec.or_comm]
  have hx : 0 ≤ bitAt l (p + k) * 2 ^ k ∧ bitAt l (p + k) * 2 ^ k ≤ 2 ^ k := by
    rcases (by omega : bitAt l (p + k) = 0 ∨ bitAt l (p + k) = 1) with h | h <;> rw [h] <;> omega
  rw [e, u64_join _ _ k hx.1 (by omega) hf.1 (by omega) (by simp) hf.2]
  omega
theorem byte_bit (x : Int) (i : Nat) (h1 : 0 ≤ x) (h2 : x ≤ 255) : bits .and .u8 (x / 2 ^ i) 1 = x / 2 ^ i % 2 := by
  have hd := div_bd x i h1
  rw [u8_and _ 1 hd.1 (by omega) (by omega) (by omega), show (1 : Int).toNat = 1 from rfl, Nat.and_one_is_mod]; omega
theorem i64_and_7 (x : Int) (h1 : 0 ≤ x) (h2 : x ≤ 9223372036854775807) : bits .and .i64 x 7 = x % 8 := by
  obtain ⟨a, rfl⟩ := Int.eq_ofNat_of_zero_le h1
  have h := bits_nat .i64 63 (by decide) (fun n h0 h1 => IntWalk.i64_in n (by omega)) a 7 (by omega) (by omega)
  have h' := h.1
  rw [show ((7 : Nat) : Int) = 7 from rfl] at h'
  rw [h', show (7 : Nat) = 2 ^ 3 - 1 from rfl, Nat.and_two_pow_sub_one_eq_mod]
  omega
theorem getK_bd (l : List Int) : ∀ k, (∀ i, i < k → 0 ≤ nth l i ∧ nth l i ≤ 255) → 0 ≤ getK l k ∧ getK l k < 2 ^ (8 * k)
  | 0, _ => by simp [getK]
  | k + 1, h => by
    have ih := getK_bd l k (fun i hi => h i (by omega))
    have hb := h k (by omega)
    have e : (2 : Int) ^ (8 * (k + 1)) = 2 ^ (8 * k) * 256 := by rw [Nat.mul_add, Int.pow_add]; rfl
    have hp1 : (1 : Int) ≤ 2 ^ (8 * k) := by exact_mod_cast Nat.one_le_two_pow
    have h0 : 0 ≤ nth l k * 2 ^ (8 * k) := Int.mul_nonneg hb.1 (by omega)
    have h1 : nth l k * 2 ^ (8 * k) ≤ 255 * 2 ^ (8 * k) := Int.mul_le_mul_of_nonneg_right hb.2 (by omega)
    unfold getK; rw [e]; omega
theorem get_wrap (x : Int) (k : Nat) (h1 : 0 ≤ x) (h2 : x ≤ 255) (hk : k ≤ 7) : IntKind.u64.wrap (x * 2 ^ (8 * k)) = x * 2 ^ (8 * k) := by
  have hp := pow_le_of (show 8 * k ≤ 56 by omega)
  have hp1 : (1 : Int) ≤ 2 ^ (8 * k) := by exact_mod_cast Nat.one_le_two_pow
  have h0 : 0 ≤ x * 2 ^ (8 * k) := Int.mul_nonneg h1 (by omega)
  have h3 : x * 2 ^ (8 * k) ≤ 255 * 2 ^ (8 * k) := Int.mul_le_mul_of_nonneg_right h2 (by omega)
  exact IntWalk.u64_in _ (by omega)
theorem get_go (l : List Int) (k : Nat) (hk : k ≤ 7) (h : ∀ i, i ≤ k → 0 ≤ nth l i ∧ nth l i ≤ 255) :
    bits .or .u64 (getK l k) (IntKind.u64.wrap (nth l k * 2 ^ (8 * k))) = getK l (k + 1) := by
  have hb := h k (by omega)
  have hf := getK_bd l k (fun i hi => h i (by omega))
  have hg := getK_bd l (k + 1) (fun i hi => h i (by omega))
  have hp := pow_le_of (show 8 * (k + 1) ≤ 64 by omega)
  have hp1 : (1 : Int) ≤ 2 ^ (8 * k) := by exact_mod_cast Nat.one_le_two_pow
  have h0 : 0 ≤ nth l k * 2 ^ (8 * k) := Int.mul_nonneg hb.1 (by omega)
  have e : bits .or .u64 (getK l k) (nth l k * 2 ^ (8 * k)) = bits .or .u64 (nth l k * 2 ^ (8 * k)) (getK l k) := by
    unfold bits; simp only; rw [BitVec.or_comm]
  unfold getK at hg
  rw [get_wrap _ _ hb.1 hb.2 hk, e, u64_join _ _ (8 * k) h0 (by omega) hf.1 (by omega) (by simp) hf.2]
  show _ = getK l k + nth l k * 2 ^ (8 * k)
  omega
/-- The bytes from i on, n of them, as a number. -/
def getFrom (l : List Int) (i : Nat) : Nat → Int
  | 0 => 0
  | n + 1 => nth l i + 256 * getFrom l (i + 1) n
theorem getFrom_snoc (l : List Int) : ∀ (n i : Nat), getFrom l i (n + 1) = getFrom l i n + nth l (i + n) * 2 ^ (8 * n)
  | 0, i => by simp [getFrom]
  | n + 1, i => by
    have ih := getFrom_snoc l n (i + 1)
    have e : (2 : Int) ^ (8 * (n + 1)) = 256 * 2 ^ (8 * n) := by rw [Nat.mul_add, Int.pow_add, Int.mul_comm]; rfl
    rw [getFrom, ih, getFrom, e, show i + 1 + n = i + (n + 1) by omega, Int.mul_add, Int.add_assoc, Int.mul_left_comm]
theorem getFrom_zero (l : List Int) : ∀ n, getFrom l 0 n = getK l n
  | 0 => rfl
  | n + 1 => by rw [getFrom_snoc, getFrom_zero l n, getK, Nat.zero_add]
theorem byte_field (l : List Int) (i : Nat) (h : 0 ≤ nth l i ∧ nth l i ≤ 255) : fieldK l (8 * i) 8 = nth l i := by
  have b (j : Nat) (hj : j < 8) : bitAt l (8 * i + j) = nth l i / 2 ^ j % 2 := by
    unfold bitAt; rw [show (8 * i + j) / 8 = i by omega, show (8 * i + j) % 8 = j by omega]
  simp only [fieldK, b 0 (by omega), b 1 (by omega), b 2 (by omega), b 3 (by omega), b 4 (by omega), b 5 (by omega), b 6 (by omega), b 7 (by omega)]
  obtain ⟨h1, h2⟩ := h
  generalize nth l i = x at *
  simp only [Int.pow_zero, Int.reducePow, Int.ediv_one, Int.mul_one]
  omega
theorem field_get (l : List Int) : ∀ n, (∀ i, i < n → 0 ≤ nth l i ∧ nth l i ≤ 255) → fieldK l 0 (8 * n) = getK l n
  | 0, _ => rfl
  | n + 1, h => by
    rw [Nat.mul_add, fieldK_split, field_get l n (fun i hi => h i (by omega)), Nat.zero_add]
    show _ + fieldK l (8 * n) 8 * _ = _
    rw [byte_field l n (h n (by omega)), getK]
theorem field_step (l : List Int) (p k : Nat) (hk : k ≤ 63) (h1 : 0 ≤ nth l ((p + k) / 8)) (h2 : nth l ((p + k) / 8) ≤ 255) :
    bits BinOp.or IntKind.u64 (fieldK l p k) (IntKind.u64.wrap (IntKind.u64.wrap (bits BinOp.and IntKind.u8 (nth l ((p + k) / 8) / 2 ^ ((p + k) % 8)) 1) * 2 ^ k)) = fieldK l p (k + 1) := by
  have hb := bitAt_bd l (p + k)
  rw [byte_bit _ _ h1 h2]
  show bits BinOp.or IntKind.u64 (fieldK l p k) (IntKind.u64.wrap (IntKind.u64.wrap (bitAt l (p + k)) * 2 ^ k)) = _
  rw [IntWalk.u64_in (bitAt l (p + k)) (by omega), field_one _ _ hb.1 hb.2 hk, field_go l p k hk]
theorem rfield_step (l : List Int) (p k m : Nat) (h1 : 0 ≤ nth l ((p + k) / 8)) (h2 : nth l ((p + k) / 8) ≤ 255) :
    2 * fieldK l (p + (k + 1)) m + bits BinOp.and IntKind.u8 (nth l ((p + k) / 8) / 2 ^ ((p + k) % 8)) 1 = fieldK l (p + k) (m + 1) := by
  rw [byte_bit _ _ h1 h2, fieldK_low, Int.add_comm]; rfl
theorem getFrom_bd (l : List Int) : ∀ (n i : Nat), (∀ j, j < i + n → 0 ≤ nth l j ∧ nth l j ≤ 255) → 0 ≤ getFrom l i n ∧ getFrom l i n < 2 ^ (8 * n)
  | 0, i, _ => by simp [getFrom]
  | n + 1, i, h => by
    have ih := getFrom_bd l n (i + 1) (fun j hj => h j (by omega))
    have hb := h i (by omega)
    have e : (2 : Int) ^ (8 * (n + 1)) = 256 * 2 ^ (8 * n) := by rw [Nat.mul_add, Int.pow_add, Int.mul_comm]; rfl
    unfold getFrom; rw [e]; omega
end Go.Proofs.Ytcbnebcooiagmaa
namespace Go.Proofs.Ytcbnebcooiagmaa
open Go.RowKit

/-- How many of the first bytes (at most ten) go on. -/
def leadF (l : List Int) (n : Nat) : Nat → Nat → Nat
  | 0, k => k
  | f + 1, k => if k < n ∧ 128 ≤ nth l k then leadF l n f (k + 1) else k
def lead (l : List Int) (n : Nat) : Nat := leadF l n 10 0
def valK (l : List Int) : Nat → Int
  | 0 => 0
  | k + 1 => valK l k + nth l k % 128 * 2 ^ (7 * k)
def valFrom (l : List Int) (i : Nat) : Nat → Int
  | 0 => 0
  | n + 1 => nth l i % 128 + 128 * valFrom l (i + 1) n
def rvForm (l : List Int) (n : Nat) : Bool := decide (lead l n = 10 ∨ (lead l n ≠ n ∧ ((0 < lead l n ∧ nth l (lead l n) = 0) ∨ (lead l n = 9 ∧ 1 < nth l 9))))
def rvE (l : List Int) (n : Nat) : Int := if rvForm l n then 22 else if lead l n = n then 21 else 0
def rvV (l : List Int) (n : Nat) : Int := if rvE l n = 0 then valK l (lead l n + 1) else 0
def rvN (l : List Int) (n : Nat) : Int := if rvE l n = 0 then lead l n + 1 else 0

theorem lead_go (l : List Int) (n : Nat) : ∀ k, k ≤ 10 → (∀ j, j < k → j < n ∧ 128 ≤ nth l j) → lead l n = leadF l n (10 - k) k
  | 0, _, _ => rfl
  | k + 1, hk, h => by
    rw [lead_go l n k (by omega) (fun j hj => h j (by omega)), show 10 - k = (10 - (k + 1)) + 1 by omega, leadF, if_pos (h k (by omega))]
theorem lead_ten {l : List Int} {n : Nat} (h : ∀ j, j < 10 → j < n ∧ 128 ≤ nth l j) : lead l n = 10 := by rw [lead_go l n 10 (by omega) h]; rfl
theorem lead_at {l : List Int} {n k : Nat} (hk : k < 10) (h : ∀ j, j < k → j < n ∧ 128 ≤ nth l j) (hn : ¬ (k < n ∧ 128 ≤ nth l k)) : lead l n = k := by
  rw [lead_go l n k (by omega) h, show 10 - k = (9 - k) + 1 by omega, leadF, if_neg hn]
theorem rv_ten {l : List Int} {n : Nat} (h : lead l n = 10) : rvV l n = 0 ∧ rvN l n = 0 ∧ rvE l n = 22 := by
  have hf : rvForm l n = true := by unfold rvForm; simp [h]
  have he : rvE l n = 22 := by unfold rvE; simp [hf]
  refine ⟨?_, ?_, he⟩
  · unfold rvV; rw [if_neg (by omega)]
  · unfold rvN; rw [if_neg (by omega)]
theorem rv_short {l : List Int} {n : Nat} (h : lead l n = n) (hn : n < 10) : rvV l n = 0 ∧ rvN l n = 0 ∧ rvE l n = 21 := by
  have hf : rvForm l n = false := by unfold rvForm; simp [h]; omega
  have he : rvE l n = 21 := by unfold rvE; simp [hf, h]
  refine ⟨?_, ?_, he⟩
  · unfold rvV; rw [if_neg (by omega)]
  · unfold rvN; rw [if_neg (by omega)]
theorem rv_form {l : List Int} {n k : Nat} (h : lead l n = k) (hn : k < n) (hb : (0 < k ∧ nth l k = 0) ∨ (k = 9 ∧ 1 < nth l k)) : rvV l n = 0 ∧ rvN l n = 0 ∧ rvE l n = 22 := by
  have hf : rvForm l n = true := by
    unfold rvForm; rw [h]
    rcases hb with ⟨h1, h2⟩ | ⟨h1, h2⟩
    · exact decide_eq_true (Or.inr ⟨by omega, Or.inl ⟨h1, h2⟩⟩)
    · subst h1; exact decide_eq_true (Or.inr ⟨by omega, Or.inr ⟨rfl, h2⟩⟩)
  have he : rvE l n = 22 := by unfold rvE; simp [hf]
  refine ⟨?_, ?_, he⟩
  · unfold rvV; rw [if_neg (by omega)]
  · unfold rvN; rw [if_neg (by omega)]
theorem rv_ok {l : List Int} {n k : Nat} (h : lead l n = k) (hn : k < n) (hk : k < 10) (h1 : ¬ (0 < k ∧ nth l k = 0)) (h2 : ¬ (k = 9 ∧ 1 < nth l k)) : rvV l n = valK l (k + 1) ∧ rvN l n = k + 1 ∧ rvE l n = 0 := by
  have hf : rvForm l n = false := by
    unfold rvForm; rw [h]
    refine decide_eq_false ?_
    rintro (h3 | ⟨_, h3 | ⟨h3, h4⟩⟩)
    · omega
    · exact h1 h3
    · subst h3; exact h2 ⟨rfl, h4⟩
  have he : rvE l n = 0 := by unfold rvE; rw [h, hf]; simp; omega
  refine ⟨?_, ?_, he⟩
  · unfold rvV; rw [if_pos he, h]
  · unfold rvN; rw [if_pos he, h]
theorem valK_bd (l : List Int) : ∀ k, 0 ≤ valK l k ∧ valK l k < 2 ^ (7 * k)
  | 0 => by simp [valK]
  | k + 1 => by
    have ih := valK_bd l k
    have e : (2 : Int) ^ (7 * (k + 1)) = 2 ^ (7 * k) * 128 := by rw [Nat.mul_add, Int.pow_add]; rfl
    have hp1 : (1 : Int) ≤ 2 ^ (7 * k) := by exact_mod_cast Nat.one_le_two_pow
    have h0 : 0 ≤ nth l k % 128 * 2 ^ (7 * k) := Int.mul_nonneg (by omega) (by omega)
    have h1 : nth l k % 128 * 2 ^ (7 * k) ≤ 127 * 2 ^ (7 * k) := Int.mul_le_mul_of_nonneg_right (by omega) (by omega)
    unfold valK; rw [e]; omega
theorem valFrom_snoc (l : List Int) : ∀ (n i : Nat), valFrom l i (n + 1) = valFrom l i n + nth l (i + n) % 128 * 2 ^ (7 * n)
  | 0, i => by simp [valFrom]
  | n + 1, i => by
    have ih := valFrom_snoc l n (i + 1)
    have e : (2 : Int) ^ (7 * (n + 1)) = 128 * 2 ^ (7 * n) := by rw [Nat.mul_add, Int.pow_add, Int.mul_comm]; rfl
    rw [valFrom, ih, valFrom, e, show i + 1 + n = i + (n + 1) by omega, Int.mul_add, Int.add_assoc, Int.mul_left_comm]
theorem valFrom_zero (l : List Int) : ∀ n, valFrom l 0 n = valK l n
  | 0 => rfl
  | n + 1 => by rw [valFrom_snoc, valFrom_zero l n, valK, Nat.zero_add]
theorem valFrom_bd (l : List Int) : ∀ (n i : Nat), 0 ≤ valFrom l i n ∧ valFrom l i n < 2 ^ (7 * n)
  | 0, i => by simp [valFrom]
  | n + 1, i => by
    have ih := valFrom_bd l n (i + 1)
    have e : (2 : Int) ^ (7 * (n + 1)) = 128 * 2 ^ (7 * n) := by rw [Nat.mul_add, Int.pow_add, Int.mul_comm]; rfl
    unfold valFrom; rw [e]; omega
theorem valFrom_top (l : List Int) : ∀ (n i : Nat), nth l (i + n) % 128 ≤ 1 → valFrom l i (n + 1) < 2 ^ (7 * n + 1)
  | 0, i, h => by simp [valFrom] at *; omega
  | n + 1, i, h => by
    have ih := valFrom_top l n (i + 1) (by rw [show i + 1 + n = i + (n + 1) by omega]; exact h)
    have e : (2 : Int) ^ (7 * (n + 1) + 1) = 128 * 2 ^ (7 * n + 1) := by rw [show 7 * (n + 1) + 1 = 7 * n + 1 + 7 by omega, Int.pow_add, Int.mul_comm]; rfl
    rw [valFrom, e]; omega
theorem u8_and_127 (x : Int) (h1 : 0 ≤ x) (h2 : x ≤ 255) : bits .and .u8 x 127 = x % 128 := by
  obtain ⟨a, rfl⟩ := Int.eq_ofNat_of_zero_le h1
  rw [u8_and _ 127 h1 (by omega) (by omega) (by omega), Int.toNat_natCast, show (127 : Int).toNat = 2 ^ 7 - 1 from rfl, Nat.and_two_pow_sub_one_eq_mod]
  omega
theorem u8_and_128 (x : Int) (h1 : 0 ≤ x) (h2 : x ≤ 255) : bits .and .u8 x 128 = if 128 ≤ x then 128 else 0 := by
  obtain ⟨a, rfl⟩ := Int.eq_ofNat_of_zero_le h1
  rw [u8_and _ 128 h1 (by omega) (by omega) (by omega), Int.toNat_natCast, show (128 : Int).toNat = 128 from rfl]
  have : ∀ y : Fin 256, (y.val &&& 128) = if 128 ≤ y.val then 128 else 0 := by decide +kernel
  have := this ⟨a, by omega⟩
  simp only at this
  rw [this]
  split <;> split <;> omega
theorem val_step (l : List Int) (k : Nat) (hk : k ≤ 9) (h9 : k = 9 → nth l k ≤ 1) (h0 : 0 ≤ nth l k) :
    bits BinOp.or IntKind.u64 (valK l k) (IntKind.u64.wrap (nth l k % 128 * 2 ^ (7 * k))) = valK l (k + 1) := by
  have hf := valK_bd l k
  have hp1 : (1 : Int) ≤ 2 ^ (7 * k) := by exact_mod_cast Nat.one_le_two_pow
  have h1 : 0 ≤ nth l k % 128 * 2 ^ (7 * k) := Int.mul_nonneg (by omega) (by omega)
  have h2 : nth l k % 128 * 2 ^ (7 * k) ≤ 9223372036854775808 := by
    by_cases h : k = 9
    · subst h; have := h9 rfl; omega
    · have hp := pow_le_of (show 7 * k ≤ 56 by omega)
      have : nth l k % 128 * 2 ^ (7 * k) ≤ 127 * 2 ^ (7 * k) := Int.mul_le_mul_of_nonneg_right (by omega) (by omega)
      omega
  have hp := pow_le_of (show 7 * k ≤ 63 by omega)
  have e : bits .or .u64 (valK l k) (nth l k % 128 * 2 ^ (7 * k)) = bits .or .u64 (nth l k % 128 * 2 ^ (7 * k)) (valK l k) := by
    unfold bits; simp only; rw [BitVec.or_comm]
  rw [IntWalk.u64_in _ (by omega), e, u64_join _ _ (7 * k) h1 (by omega) hf.1 (by omega) (by simp) hf.2, valK]
  omega

set_option maxRecDepth 100000 in
set_option maxHeartbeats 400000 in
theorem readvar_any (a : Option Addr) (n c : Nat) (l : List Int) (w : World) (h : RdAt .u8 w a n c l) :
    Calls Try.prog 102 #[.slice a n c] w fun e w' => e = .returned (.tuple #[.int .u64 (rvV l n), .int .i64 (rvN l n), .int .i64 (rvE l n)]) ∧ w = w' := by
  have hmax := h.max
  have hcap := h.cap
  unfold maxLen at hmax
  go_enter Try.func102, Try.ntmps102
  go_wp2
  go_loop [5, 10] (fun x i => ∃ k : Nat, k ≤ n ∧ k ≤ 9 ∧ i = .int .i64 k ∧ x = .int .u64 (valK l k) ∧ ∀ j, j < k → j < n ∧ 128 ≤ nth l j) (fun _ i => n - (intOf i).toNat)
  case atStart => exact ⟨0, by omega, by omega, rfl, rfl, fun j hj => by omega⟩
  case round =>
    obtain ⟨k, hk, hk9, rfl, rfl, hall⟩ := hrel
    have HALL := Lib.hid hall
    clear hall
    by_cases hp : k < n
    · obtain ⟨b, o, rfl, hc⟩ := h.cell k hp
      have hb := h.byte k hp
      have hb1 := hb.1
      have hb2 := hb.2
      have h127 := u8_and_127 _ hb1 hb2
      clear hb
      by_cases hgo : 128 ≤ nth l k
      · have h128 : bits .and .u8 (nth l k) 128 = 128 := by rw [u8_and_128 _ hb1 hb2, if_pos hgo]
        by_cases h9 : k = 9
        · subst h9
          have hr := Lib.hid (rv_ten (lead_ten (l := l) (n := n) (fun j hj => by by_cases e : j = 9; (subst e; exact ⟨hp, hgo⟩); exact HALL.out j (by omega))))
          go_wp2
          go_ret3
          rw [hr.out.1, hr.out.2.1, hr.out.2.2]
          exact ⟨rfl, rfl⟩
        · have hs := Lib.hid (val_step l k hk9 (fun e => absurd e h9) hb1)
          have k9 : ((k : Int) == 9) = false := by simp; omega
          have k10 : ((k : Int) == 10) = false := by simp; omega
          go_wp2
          go_round
          case rel => exact ⟨k + 1, by omega, by omega, by go_num, by rw [hs.out], fun j hj => by by_cases e : j = k; (subst e; exact ⟨hp, hgo⟩); exact HALL.out j (by omega)⟩
          case measure => simp [intOf] <;> omega
      · have h128 : bits .and .u8 (nth l k) 128 = 0 := by rw [u8_and_128 _ hb1 hb2, if_neg hgo]
        have hl : lead l n = k := lead_at (by omega) HALL.out (by omega)
        have HL := Lib.hid hl
        clear hl
        have k10 : ((k : Int) == 10) = false := by simp; omega
        by_cases hz : 0 < k ∧ nth l k = 0
        · have hr := Lib.hid (rv_form HL.out hp (Or.inl hz))
          obtain ⟨hz1, hz2⟩ := hz
          have hz3 : (nth l k == 0) = true := by simp [hz2]
          have hz4 : nth l k ≤ 0 := by omega
          clear hz2
          go_wp2
          all_goals
            go_ret3
            rw [hr.out.1, hr.out.2.1, hr.out.2.2]
            exact ⟨rfl, rfl⟩
        · by_cases h9 : k = 9 ∧ 1 < nth l k
          · have hr := Lib.hid (rv_form HL.out hp (Or.inr h9))
            obtain ⟨h91, h92⟩ := h9
            have k9 : ((k : Int) == 9) = true := by simp; omega
            have k9' : (k : Int) ≤ 9 := by omega
            have k9'' : 9 ≤ (k : Int) := by omega
            clear h91
            go_wp2
            go_ret3
            rw [hr.out.1, hr.out.2.1, hr.out.2.2]
            exact ⟨rfl, rfl⟩
          · have hr := Lib.hid (rv_ok HL.out hp (by omega) hz h9)
            have hs := Lib.hid (val_step l k hk9 (fun e => by omega) hb1)
            by_cases hk0 : k = 0
            · have hk1 : (k : Int) ≤ 0 := by omega
              have k9 : ((k : Int) == 9) = false := by simp; omega
              clear hk0 hz h9
              by_cases hz3 : (nth l k == 0) = true
              all_goals
                try simp only [Bool.not_eq_true] at hz3
                go_wp2
                go_ret3
                rw [hr.out.1, hr.out.2.1, hr.out.2.2, ← hs.out]
                exact ⟨rfl, rfl⟩
            · have hz3 : (nth l k == 0) = false := by simp; omega
              by_cases k9 : k = 9
              · have h91 : nth l k ≤ 1 := by omega
                have k9a : ((k : Int) == 9) = true := by simp; omega
                clear hz h9 k9
                go_wp2
                go_ret3
                rw [hr.out.1, hr.out.2.1, hr.out.2.2, ← hs.out]
                exact ⟨rfl, rfl⟩
              · have k9' : ((k : Int) == 9) = false := by simp; omega
                clear hz h9
                go_wp2
                go_ret3
                rw [hr.out.1, hr.out.2.1, hr.out.2.2, ← hs.out]
                exact ⟨rfl, rfl⟩
    · obtain rfl : k = n := by omega
      have hr := Lib.hid (rv_short (l := l) (n := k) (lead_at (by omega) HALL.out (by omega)) (by omega))
      go_wp2
      go_ret3
      rw [hr.out.1, hr.out.2.1, hr.out.2.2]
      exact ⟨rfl, rfl⟩
end Go.Proofs.Ytcbnebcooiagmaa
namespace Go.Proofs.Ytcbnebcooiagmaa
open Go.RowKit
/-- What reading something comes to: the error (0: none), what is told, what is left. -/
structure Rd (α : Type) where
  e : Int
  v : α
  l : List Int
/-- One number. -/
def rdInt (l : List Int) : Rd Int :=
  if rvE l l.length ≠ 0 then ⟨rvE l l.length, 0, l⟩ else ⟨0, zagI (rvV l l.length), l.drop (rvN l l.length).toNat⟩
def rdBetween (lo hi : Int) (l : List Int) : Rd Int :=
  if (rdInt l).e ≠ 0 then ⟨(rdInt l).e, 0, (rdInt l).l⟩ else if (rdInt l).v < lo ∨ hi < (rdInt l).v then ⟨22, 0, (rdInt l).l⟩ else rdInt l
def rdBytes (most : Int) (l : List Int) : Rd (List Int) :=
  if (rdBetween 0 most l).e ≠ 0 then ⟨(rdBetween 0 most l).e, [], (rdBetween 0 most l).l⟩
  else if ((rdBetween 0 most l).l.length : Int) < (rdBetween 0 most l).v then ⟨21, [], (rdBetween 0 most l).l⟩
  else ⟨0, (rdBetween 0 most l).l.take (rdBetween 0 most l).v.toNat, (rdBetween 0 most l).l.drop (rdBetween 0 most l).v.toNat⟩
/-- So many numbers. -/
def rdInts : Nat → List Int → Rd (List Int)
  | 0, l => ⟨0, [], l⟩
  | k + 1, l => if (rdInt l).e ≠ 0 then ⟨(rdInt l).e, [], (rdInt l).l⟩ else if (rdInts k (rdInt l).l).e ≠ 0 then ⟨(rdInts k (rdInt l).l).e, [], (rdInts k (rdInt l).l).l⟩ else ⟨0, (rdInt l).v :: (rdInts k (rdInt l).l).v, (rdInts k (rdInt l).l).l⟩
def rdList (most : Int) (l : List Int) : Rd (List Int) :=
  if (rdBetween 0 most l).e ≠ 0 then ⟨(rdBetween 0 most l).e, [], (rdBetween 0 most l).l⟩ else rdInts (rdBetween 0 most l).v.toNat (rdBetween 0 most l).l
/-- Behind an error nothing is told. -/
def rdFrom {α : Type} (e0 : Int) (z : α) (l : List Int) (r : Rd α) : Rd α := if e0 ≠ 0 then ⟨e0, z, l⟩ else r
theorem rdFrom_ok {α : Type} (z : α) (l : List Int) (r : Rd α) : rdFrom 0 z l r = r := if_neg (by simp)
theorem rdFrom_bad {α : Type} {e0 : Int} (z : α) (l : List Int) (r : Rd α) (h : e0 ≠ 0) : rdFrom e0 z l r = ⟨e0, z, l⟩ := if_pos h
theorem rdInt_bad {l : List Int} (h : rvE l l.length ≠ 0) : rdInt l = ⟨rvE l l.length, 0, l⟩ := by unfold rdInt; rw [if_pos h]
theorem rdInt_ok {l : List Int} (h : rvE l l.length = 0) : rdInt l = ⟨0, zagI (rvV l l.length), l.drop (rvN l l.length).toNat⟩ := by unfold rdInt; rw [if_neg (by simpa using h)]
theorem rvE_vals (l : List Int) (n : Nat) : rvE l n = 0 ∨ rvE l n = 21 ∨ rvE l n = 22 := by
  unfold rvE
  split
  · exact .inr (.inr rfl)
  · split
    · exact .inr (.inl rfl)
    · exact .inl rfl
theorem rdN_pos {x : List Int} {n : Nat} (h : rvE x n = 0) : 1 ≤ rvN x n := by unfold rvN; rw [if_pos h]; omega
theorem rdN_le {x : List Int} (h : rvE x x.length = 0) : rvN x x.length ≤ x.length := by
  have key : lead x x.length < x.length := by
    unfold rvE at h
    split at h
    · omega
    · split at h
      · omega
      · rename_i h1 h2
        have : ∀ (f k : Nat), k ≤ x.length → leadF x x.length f k ≤ x.length ∨ leadF x x.length f k = f + k := by
          intro f
          induction f with
          | zero => intro k hk; exact .inl (by simpa [leadF] using hk)
          | succ f ih =>
            intro k hk
            rw [leadF]
            split
            · rename_i hc
              rcases ih (k + 1) (by omega) with h | h
              · exact .inl h
              · exact .inr (by omega)
            · exact .inl hk
        rcases this 10 0 (by omega) with h | h
        · have : lead x x.length ≤ x.length := h
          omega
        · have h10 : lead x x.length = 10 := by unfold lead; omega
          exfalso
          apply h1
          unfold rvForm
          simp [h10]
  unfold rvN
  rw [if_pos h]
  omega
theorem rdV_bd (x : List Int) (n : Nat) : 0 ≤ rvV x n := by
  unfold rvV
  split
  · exact (valK_bd x _).1
  · omega
theorem rdInt_len {l : List Int} (h : (rdInt l).e = 0) : (rdInt l).l.length < l.length := by
  by_cases h0 : rvE l l.length = 0
  · rw [rdInt_ok h0]
    have h1 := rdN_pos h0
    have h2 := rdN_le h0
    simp only [List.length_drop]
    omega
  · rw [rdInt_bad h0] at h
    exact absurd h h0
theorem rdInt_sub (l : List Int) : ∀ y ∈ (rdInt l).l, y ∈ l := by
  by_cases h0 : rvE l l.length = 0
  · rw [rdInt_ok h0]
    exact fun y hy => List.mem_of_mem_drop hy
  · rw [rdInt_bad h0]
    exact fun y hy => hy
theorem rdInt_z {l : List Int} (h : (rdInt l).e ≠ 0) : (rdInt l).v = 0 := by
  by_cases h0 : rvE l l.length = 0
  · rw [rdInt_ok h0] at h
    exact absurd rfl h
  · rw [rdInt_bad h0]
theorem rdBetween_z {lo hi : Int} {l : List Int} (h : (rdBetween lo hi l).e ≠ 0) : (rdBetween lo hi l).v = 0 := by
  unfold rdBetween at *
  split at h
  · rename_i h1; rw [if_pos h1]
  · rename_i h1
    rw [if_neg h1]
    split at h
    · rename_i h2; rw [if_pos h2]
    · exact absurd h h1
theorem rdBytes_z {most : Int} {l : List Int} (h : (rdBytes most l).e ≠ 0) : (rdBytes most l).v = [] := by
  unfold rdBytes at *
  split at h
  · rename_i h1; rw [if_pos h1]
  · rename_i h1
    rw [if_neg h1]
    split at h
    · rename_i h2; rw [if_pos h2]
    · exact absurd rfl h
theorem rdInts_z : ∀ (k : Nat) (l : List Int), (rdInts k l).e ≠ 0 → (rdInts k l).v = []
  | 0, l, h => absurd rfl h
  | k + 1, l, h => by
    rw [rdInts] at h ⊢
    split
    · rfl
    · split
      · rfl
      · rename_i h1 h2
        rw [if_neg h1, if_neg h2] at h
        exact absurd rfl h
theorem rdList_z {most : Int} {l : List Int} (h : (rdList most l).e ≠ 0) : (rdList most l).v = [] := by
  unfold rdList at *
  split at h
  · rename_i h1; rw [if_pos h1]
  · rename_i h1
    rw [if_neg h1]
    exact rdInts_z _ _ h
theorem rdBetween_ok {lo hi : Int} {l : List Int} (h : (rdBetween lo hi l).e = 0) : rdBetween lo hi l = rdInt l ∧ (rdInt l).e = 0 ∧ lo ≤ (rdInt l).v ∧ (rdInt l).v ≤ hi := by
  unfold rdBetween at *
  split at h
  · rename_i h1; exact absurd h h1
  · rename_i h1
    rw [if_neg h1]
    split at h
    · simp at h
    · rename_i h2
      rw [if_neg h2]
      exact ⟨rfl, h, by omega, by omega⟩
theorem rd_leadF_top (x : List Int) (n : Nat) : ∀ f k, leadF x n f k ≤ f + k
  | 0, k => by unfold leadF; omega
  | f + 1, k => by
    have := rd_leadF_top x n f (k + 1)
    unfold leadF
    split <;> omega
theorem rdV_lt (x : List Int) (n : Nat) (h0 : 0 ≤ nth x 9) : rvV x n ≤ 18446744073709551615 := by
  unfold rvV
  split
  · rename_i he
    have hl : lead x n ≤ 10 := rd_leadF_top x n 10 0
    unfold rvE at he
    split at he
    · omega
    · rename_i hf
      have hf2 : ¬ (lead x n = 10 ∨ (lead x n ≠ n ∧ ((0 < lead x n ∧ nth x (lead x n) = 0) ∨ (lead x n = 9 ∧ 1 < nth x 9)))) := fun h => hf (by unfold rvForm; exact decide_eq_true h)
      have hn : lead x n ≠ n := by
        intro h
        rw [if_pos h] at he
        omega
      by_cases h9 : lead x n = 9
      · have h1 : nth x 9 ≤ 1 := by omega
        have := valFrom_top x 9 0 (by rw [Nat.zero_add]; omega)
        rw [valFrom_zero] at this
        rw [h9]
        have e : (2 : Int) ^ (7 * 9 + 1) = 18446744073709551616 := by decide
        omega
      · have h8 : lead x n ≤ 8 := by omega
        have h2 := (valK_bd x (lead x n + 1)).2
        have h3 : (2 : Int) ^ (7 * (lead x n + 1)) ≤ 2 ^ 63 := by
          have : (2 : Nat) ^ (7 * (lead x n + 1)) ≤ 2 ^ 63 := Nat.pow_le_pow_right (by omega) (by omega)
          exact_mod_cast this
        have e : (2 : Int) ^ 63 = 9223372036854775808 := by decide
        omega
  · omega
theorem rd_nth_pos (x : List Int) (h : ∀ y ∈ x, (Lit.int .u8 y).wf = true) (i : Nat) : 0 ≤ nth x i := by
  by_cases hi : i < x.length
  · rw [nth_eq hi]
    exact (wf_u8_bd (h _ (List.getElem_mem hi))).1
  · rw [nth_out (by omega)]; omega
end Go.Proofs.Ytcbnebcooiagmaa
namespace Go.Proofs.Ytcbnebcooiagmaa
open Go.RowKit

set_option maxRecDepth 100000 in
theorem zig_any (v : Int) (w : World) (h1 : -9223372036854775808 ≤ v) (h2 : v ≤ 9223372036854775807) :
    Calls Try.prog 76 #[.int .i64 v] w fun e w' => e = .returned (.int .u64 (zigI v)) ∧ w = w' := by
  go_enter Try.func76, Try.ntmps76
  go_wp2
  go_ret
  exact ⟨ret_int (zig_go v h1 h2), rfl⟩
set_option maxRecDepth 100000 in
theorem zag_any (v : Int) (w : World) (h1 : 0 ≤ v) (h2 : v ≤ 18446744073709551615) :
    Calls Try.prog 103 #[.int .u64 v] w fun e w' => e = .returned (.int .i64 (zagI v)) ∧ w = w' := by
  go_enter Try.func103, Try.ntmps103
  go_wp2
  go_ret
  exact ⟨ret_int (zag_go v h1 h2), rfl⟩
set_option maxRecDepth 100000 in
theorem rzig_any (v : Int) (w : World) (h1 : -9223372036854775808 ≤ v) (h2 : v ≤ 9223372036854775807) :
    Calls Try.prog 82 #[.int .i64 v] w fun e w' => e = .returned (.int .u64 (zigI v)) ∧ w = w' := by
  go_enter Try.func82, Try.ntmps82
  go_wp2
  · go_ret
    exact ⟨ret_int (by unfold zigI; rw [if_pos (by assumption)]), rfl⟩
  · go_ret
    exact ⟨ret_int (by unfold zigI; rw [if_neg (by omega)]), rfl⟩
set_option maxRecDepth 100000 in
theorem rzag_any (v : Int) (w : World) (h1 : 0 ≤ v) (h2 : v ≤ 18446744073709551615) :
    Calls Try.prog 94 #[.int .u64 v] w fun e w' => e = .returned (.int .i64 (zagI v)) ∧ w = w' := by
  by_cases h : v % 2 = 1
  · have h' : (v % 2 == 1) = true := by simpa using h
    have e : zagI v = -(v / 2) - 1 := by unfold zagI; rw [if_pos h]
    clear h
    go_enter Try.func94, Try.ntmps94
    go_wp2
    go_ret
    exact ⟨ret_int e.symm, rfl⟩
  · have h' : (v % 2 == 1) = false := by simpa using h
    have e : zagI v = v / 2 := by unfold zagI; rw [if_neg h]
    clear h
    go_enter Try.func94, Try.ntmps94
    go_wp2
    go_ret
    exact ⟨ret_int e.symm, rfl⟩
end Go.Proofs.Ytcbnebcooiagmaa
