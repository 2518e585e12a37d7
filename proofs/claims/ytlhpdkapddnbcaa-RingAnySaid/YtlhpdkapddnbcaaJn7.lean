/- ring: write: a sector of a state. -/
import Derived.Test.YtlhpdkapddnbcaaJn0
import Derived.Test.YtlhpdkapddnbcaaJn5
import Derived.Test.YtlhpdkapddnbcaaJn6
namespace Go.Proofs.Ytlhpdkapddnbcaa
open Go.RowKit
theorem below_drew {B : Nat} {a w : World} (h : Below B a w) : Below B a w.drew := ⟨h.os, h.tape, h.output, h.size, h.block⟩
theorem cells4 {w : World} {b T : Nat} {x0 x1 x2 x3 : Value} (h : w.heap[b]? = some (.cells #[x0, x1, x2, x3] T (0, 0))) : w.cell? ⟨b, 0, none⟩ = some x0 ∧ w.cell? ⟨b, 1, none⟩ = some x1 ∧ w.cell? ⟨b, 2, none⟩ = some x2 ∧ w.cell? ⟨b, 3, none⟩ = some x3 := by
  refine ⟨?_, ?_, ?_, ?_⟩ <;> simp [World.cell?, h]
theorem Tnd.below_r {Z Z' : Nat → Prop} {w w1 w2 : World} (t : Tnd Z Z' w w1) (b : Below w1.heap.size w1 w2) : Tnd Z Z' w w2 :=
  ⟨b.os.trans t.os, b.tape.trans t.tape, b.output.trans t.output, Nat.le_trans t.size b.size, fun k hk hz => (b.block k (Nat.lt_of_lt_of_le hk t.size)).trans (t.block k hk hz), t.sub⟩
theorem Tnd.below_l {Z Z' : Nat → Prop} {w w1 w2 : World} (b : Below w.heap.size w w1) (t : Tnd Z Z' w1 w2) : Tnd Z Z' w w2 :=
  ⟨t.os.trans b.os, t.tape.trans b.tape, t.output.trans b.output, Nat.le_trans b.size t.size, fun k hk hz => (t.block k (Nat.lt_of_lt_of_le hk b.size) hz).trans (b.block k hk), fun k hk => (t.sub k hk).imp id (Nat.le_trans b.size)⟩
theorem Owns.ats {k : IntKind} {e : TypeId} {w w' : World} {base : Nat} {v : Value} {l : List Int} (h : Owns k e w base v l) (hg : ∀ g, room v = some g → w'.heap[g]? = w.heap[g]?) : Owns k e w' base v l := by
  by_cases hr : room v = none
  · refine ⟨h.1, ?_⟩
    rcases h.2 with h2 | h2
    · exact .inl h2
    · rcases h2.2 with ⟨hv, hn⟩ | ⟨g, cap, cur, hv, hb, hh, hnc, hcm, hcs, ht⟩
      · exact .inl ⟨List.eq_nil_of_length_eq_zero hn, none, hv, fun _ h => by cases h⟩
      · have hc : cap = 0 := by
          subst hv
          unfold room at hr
          simp at hr
          exact hr
        subst hc
        have hl : l.length = 0 := by omega
        exact .inl ⟨List.eq_nil_of_length_eq_zero hl, _, by rw [hv, hl], fun x h => by injection h with h; rw [← h]⟩
  · obtain ⟨g, hgr⟩ := Option.ne_none_iff_exists'.1 hr
    refine ⟨h.1, h.2.imp id fun h2 => ⟨h2.1, ?_⟩⟩
    rcases h2.2 with h3 | ⟨g', cap, cur, hv, hb, hh, r⟩
    · exact .inl h3
    · refine .inr ⟨g', cap, cur, hv, hb, ?_, r⟩
      have e := room_some hgr
      rw [hv] at e
      injection e with e
      rw [show g' = g from e, hg g hgr, ← show g' = g from e]
      exact hh
theorem below_tnd {w w' : World} (b : Below w.heap.size w w') (Z : Nat → Prop) : Tnd Z Z w w' := ⟨b.os, b.tape, b.output, b.size, fun k hk _ => b.block k hk, fun _ h => .inl h⟩
theorem own_ge {k : IntKind} {e : TypeId} {w : World} {base : Nat} {q : Addr} {n c : Nat} {l : List Int} (h : Owns k e w base (.slice (some q) n c) l) (hn : 0 < n) : base ≤ q.block := by
  rcases h.2 with ⟨_, a', hv, ha⟩ | h2
  · injection hv with h1 h2 h3
    omega
  · rcases h2.2 with ⟨hv, _⟩ | ⟨g, cap, cur, hv, hb, _⟩
    · injection hv with h1 h2 h3
      cases h1
    · injection hv with h1 h2 h3
      injection h1 with h1
      rw [h1]
      exact hb
/-- A call turned the disk alone. -/
theorem RiIn.disk {w w' : World} {Q Z Z' : Nat → Prop} {sv : Value} {r d : Nat} {st st' : Dk} {J : Jr} (hr : w.heap[r]? = some (rowJ d sv J)) (ho : Owns .i64 3 w 0 sv (zs J.ks)) (hz : ∀ k, Z k → Q k) (hq : Q r) (hn : ¬ Z r) (hg : ∀ g, room sv = some g → Q g ∧ ¬ Z g ∧ g ≠ r) (ok : JOk J) (dok : DOk st J) (hk : st'.size = st.size ∧ st'.kept.length = st.kept.length) (hd' : DkIn w' Z' d st') (ht : Tnd Z Z' w w') : ∃ Q', RiIn w' Q' r d st' J ∧ Tnd Q Q' w w' := by
  have hrl := (Array.getElem?_eq_some_iff.1 hr).1
  have hnew : ∀ k, k < w.heap.size → ¬ Z k → ¬ Z' k := fun k hk h1 h2 => by
    rcases ht.sub k h2 with h3 | h3
    · exact h1 h3
    · omega
  refine ⟨fun k => Z' k ∨ k = r ∨ room sv = some k, ⟨⟨Z', sv, hd', (ht.block r hrl hn).trans hr, ?_, fun k hk => .inl hk, .inr (.inl rfl), hnew r hrl hn, fun g hg' => ⟨.inr (.inr hg'), hnew g (ho.at_base g hg').2 (hg g hg').2.1, (hg g hg').2.2⟩⟩, ok, ⟨hk.1.trans dok.size, by rw [hk.2]; exact dok.n⟩, fun k hk => ?_⟩, ht.os, ht.tape, ht.output, ht.size, fun k hk hq' => ht.block k hk (fun h1 => hq' (hz k h1)), fun k hk => ?_⟩
  · exact ho.ats (fun g hc => ht.block g (ho.at_base g hc).2 (hg g hc).2.1)
  · rcases hk with h1 | rfl | h1
    · exact hd'.1 k h1
    · exact Nat.lt_of_lt_of_le hrl ht.size
    · exact Nat.lt_of_lt_of_le (ho.at_base k h1).2 ht.size
  · rcases hk with h1 | rfl | h1
    · rcases ht.sub k h1 with h2 | h2
      · exact .inl (hz k h2)
      · exact .inr h2
    · exact .inl hq
    · exact .inl (hg k h1).1
/-- The bytes of numbers, eight each. -/
def hdP : List Int → List Int
  | [] => []
  | v :: r => putL v 8 ++ hdP r
theorem hdP_app : ∀ (a b : List Int), hdP (a ++ b) = hdP a ++ hdP b
  | [], b => rfl
  | x :: r, b => by simp [hdP, hdP_app r b]
theorem hdP_len : ∀ (a : List Int), (hdP a).length = 8 * a.length
  | [] => rfl
  | x :: r => by simp [hdP, hdP_len r, putL_len]; omega
def hdB (h : Hd) : List Int := putL 1196312914 4 ++ hdP [h.turn, h.first, h.next, h.start]
theorem hdB_len (h : Hd) : (hdB h).length = 36 := by unfold hdB; rw [List.length_append, putL_len, hdP_len]; rfl
/-- A write that fits, of a disk that is on. -/
def wr1 (st : Dk) (s : Int) (l : List Int) : Dk := if st.armed = 1 then cutS st st.keep else putS st s l
def wr1E (st : Dk) : Int := if st.armed = 1 then 8 else 0
theorem wr1_fit {st : Dk} {s : Int} {l : List Int} (ho : st.off = false) (h0 : 0 ≤ s) (h1 : s < st.kept.length) (hl : l.length = st.size) : wrE st s l = wr1E st ∧ wrS st s l = wr1 st s l := by
  have hf : fitW st s l = true := by unfold fitW; simp [h0, h1, hl]
  unfold wrE wrS wr1E wr1
  rw [ho, hf]
  exact ⟨rfl, rfl⟩
theorem wr1_shape (st : Dk) (s : Int) (l : List Int) : (wr1 st s l).size = st.size ∧ (wr1 st s l).kept.length = st.kept.length := by
  unfold wr1
  split
  · exact ⟨rfl, settleK_len _ _ _ _⟩
  · exact ⟨rfl, rfl⟩
/-- A state's sector. -/
def hdS (size : Nat) (h : Hd) : List Int := secL size (hdB h)
theorem nth4 (x : List Int) (k : Nat) (h : k < x.length) : x.take (k + 1) = x.take k ++ [nth x k] := by
  rw [nth_eq h, List.take_add_one, List.getElem?_eq_getElem h]
  rfl
set_option linter.unusedSimpArgs false in
set_option linter.unusedVariables false in
set_option maxRecDepth 100000 in
set_option maxHeartbeats 8000000 in
theorem rwrite_any (Q : Nat → Prop) (r d : Nat) (st : Dk) (J : Jr) (h : Hd) (w0 : World) (hR : RiIn w0 Q r d st J) (hoff : st.off = false) (hh : h.Wf) (hfew : st.pend.length + 1 ≤ 1000000) (hwr : st.writes + 1 ≤ 4611686018427387904) :
    Calls Try.prog 43 #[.pointer (some ⟨r, 0, none⟩), h.val] w0 fun e w' => e = .returned (.int .i64 (wr1E st)) ∧ ∃ Q', RiIn w' Q' r d (wr1 st ((J.lo : Int) + h.turn % 2) (hdS J.size h)) J ∧ Tnd Q Q' w0 w' := by
  obtain ⟨SS, hSS⟩ : ∃ SS, hdS J.size h = SS := ⟨_, rfl⟩
  obtain ⟨BB, hBB⟩ : ∃ BB, hdB h = BB := ⟨_, rfl⟩
  have hbl := hdB_len h
  have hs0 := hR.ok.s0
  have hSL : SS.length = J.size := by rw [← hSS]; exact secL_len (by omega)
  have hSB : secL J.size BB = SS := by rw [← hBB]; exact hSS
  rw [hBB] at hbl
  rw [hSS]
  unfold hdB at hBB
  obtain ⟨sl, hsl⟩ : ∃ sl, h.turn % 2 = sl := ⟨_, rfl⟩
  rw [hsl]
  have hsl0 : 0 ≤ sl ∧ sl < 2 := by omega
  have hn4 := hR.ok.n4
  have hdn := hR.dok.n
  have hlo := hR.ok.lo
  obtain ⟨EE, hEE⟩ : ∃ EE, wr1E st = EE := ⟨_, rfl⟩
  obtain ⟨ST, hST⟩ : ∃ ST, wr1 st ((J.lo : Int) + sl) SS = ST := ⟨_, rfl⟩
  have hfit := wr1_fit (s := (J.lo : Int) + sl) (l := SS) hoff (by omega) (by omega) (by rw [hSL]; exact hR.dok.size.symm)
  have hshape := wr1_shape st ((J.lo : Int) + sl) SS
  rw [hEE, hST]
  rw [hEE, hST] at hfit
  rw [hST] at hshape
  obtain ⟨⟨Z, sv, hd, hr, ho, hz, hq, hn, hg⟩, ok, dok, lt⟩ := hR
  have HD := Lib.hid hd
  have OK := Lib.hid ok
  have hrl := (Array.getElem?_eq_some_iff.1 hr).1
  have HZL := Lib.hid hd.1
  have HBL : Hid (BB.length + 4 ≤ J.size) := by show _ ≤ _; omega
  obtain ⟨hb, hhb⟩ : ∃ hb, w0.heap.size = hb := ⟨_, rfl⟩
  have HWR : Hid (∀ w1 a n c, Below hb w0 w1 → Owns .u8 5 w1 (hb + 1) (.slice a n c) SS → Calls Try.prog 27 #[.pointer (some ⟨d, 0, none⟩), .int .i64 ((J.lo : Int) + sl), .slice a n c] w1 fun e w' => e = .returned (.int .i64 EE) ∧ ∃ Q', RiIn w' Q' r d ST J ∧ Tnd Q Q' w0 w') := by
    intro w1 a n c hb1 ho1
    rw [← hhb] at hb1 ho1
    have hd1 := hd.below hb1
    have hrd := ho1.rd
    have := write_any Z d st ((J.lo : Int) + sl) a n c SS w1 hd1 hrd (fun x hx hzx => ?_) (by omega) (by omega) hfew hwr
    · refine this.mono ?_
      rintro e w2 ⟨rfl, Z2, h1, h2⟩
      rw [hfit.1]
      rw [hfit.2] at h1
      exact ⟨rfl, RiIn.disk hr ho hz hq hn hg ok dok hshape h1 (Tnd.below_l hb1 h2)⟩
    · subst hx
      have h1 := own_ge ho1 (by rw [← hrd.len, hSL]; omega)
      have h2 := hd.1 _ hzx
      omega
  have HR := Lib.hid hr
  have hwf0 := hh
  obtain ⟨ht, hf, hx, hs⟩ := h
  show Calls _ _ #[_, .agg #[.int .u64 ht, .int .u64 hf, .int .u64 hx, .int .i64 hs]] _ _
  replace hBB : putL 1196312914 4 ++ hdP [ht, hf, hx, hs] = BB := hBB
  replace hsl : ht % 2 = sl := hsl
  have ht0 : 0 ≤ ht ∧ ht ≤ 18446744073709551615 := ⟨hh.t0, hh.t1⟩
  have hf0 : 0 ≤ hf ∧ hf ≤ 18446744073709551615 := ⟨hh.f0, hh.f1⟩
  have hx0 : 0 ≤ hx ∧ hx ≤ 18446744073709551615 := ⟨hh.n0, hh.n1⟩
  have hs1 : 0 ≤ hs ∧ hs ≤ 65536 := ⟨hh.s0, hh.s1⟩
  obtain ⟨vs, hvs⟩ : ∃ vs, [ht, hf, hx, hs] = vs := ⟨_, rfl⟩
  have hvb : ∀ k, k < 4 → 0 ≤ nth vs k ∧ nth vs k ≤ 18446744073709551615 := by
    intro k hk
    rw [← hvs]
    match k, hk with
    | 0, _ => exact ht0
    | 1, _ => exact hf0
    | 2, _ => exact hx0
    | 3, _ => exact ⟨hs1.1, by show hs ≤ _; omega⟩
  have hvl : vs.length = 4 := by rw [← hvs]; rfl
  rw [hvs] at hBB
  have HVB := Lib.hid hvb
  have HVL := Lib.hid hvl
  have HVS := Lib.hid hvs
  have HBB := Lib.hid hBB
  have HSB := Lib.hid hSB
  have hst : wrap64 hs = hs := by unfold wrap64; omega
  have hsl2 : ht.tmod 2 = sl := by rw [Int.tmod_eq_emod_of_nonneg ht0.1, hsl]
  have HW40 : Hid (IntKind.i64.wrap ((J.lo : Int) + IntKind.i64.wrap sl) = (J.lo : Int) + sl) := by show _ = _; rw [i64_small (x := sl) (by omega) (by omega), i64_small (by omega) (by omega)]
  clear hd hr ho hz hq hn hg ok dok lt hfit hshape hSS hbl hSL hSB hdn hh hwf0 hBB hvb hvl hvs hsl hs0 hST hEE hoff hfew hwr
  go_enter Try.func43, Try.ntmps43
  have hrow := heap_alloc_new w0 (.cells #[.int .u64 ht, .int .u64 hf, .int .u64 hx, .int .i64 hs] 76)
  have hba : Below w0.heap.size w0 (w0.alloc (.cells #[.int .u64 ht, .int .u64 hf, .int .u64 hx, .int .i64 hs] 76)) := (Below.refl _ _).alloc (Nat.le_refl _) _
  go_wp2_with fail
  obtain ⟨wa, hwa⟩ : ∃ wa, w0.alloc (.cells #[.int .u64 ht, .int .u64 hf, .int .u64 hx, .int .i64 hs] 76) = wa := ⟨_, rfl⟩
  rw [hwa, hhb] at hrow hba
  rw [hwa]
  have BA := Lib.hid hba
  have RA := Lib.hid hrow
  have hla : hb + 1 ≤ wa.heap.size := (Array.getElem?_eq_some_iff.1 hrow).1
  rw [hhb] at hrl
  clear hwa hrow hba
  refine (put_any none 0 0 [] 1196312914 4 wa (RdAt.nil _ _) (by omega) (by omega) (by omega) (by omega) (by omega)).mono ?_
  rintro e w1 ⟨v1, rfl, ho1, hb1⟩
  have O1 := Lib.hid (ho1.mono hla)
  have B1 := Lib.hid (BA.out.trans (hb1.mono (by omega)))
  have R1 := Lib.hid (row_keep RA.out hb1)
  have hl1 : hb + 1 ≤ w1.heap.size := Nat.le_trans hla hb1.size
  obtain ⟨z0, z1, z2, z3⟩ := cells4 R1.out
  clear ho1 hb1
  go_wp2_with fail
  have hrow2 := heap_alloc_new w1 (.cells #[.int .u64 ht, .int .u64 hf, .int .u64 hx, .int .u64 hs] 29)
  have hba2 : Below w1.heap.size w1 (w1.alloc (.cells #[.int .u64 ht, .int .u64 hf, .int .u64 hx, .int .u64 hs] 29)) := (Below.refl _ _).alloc (Nat.le_refl _) _
  obtain ⟨w2, hw2⟩ : ∃ w2, w1.alloc (.cells #[.int .u64 ht, .int .u64 hf, .int .u64 hx, .int .u64 hs] 29) = w2 := ⟨_, rfl⟩
  obtain ⟨ab, hab⟩ : ∃ ab, w1.heap.size = ab := ⟨_, rfl⟩
  rw [hw2, hab]
  rw [hw2, hab] at hrow2
  rw [hw2] at hba2
  have hl2 : hb + 1 ≤ w2.heap.size := by have := hba2.size; omega
  have hab2 : ab < w2.heap.size := (Array.getElem?_eq_some_iff.1 hrow2).1
  have R2 := Lib.hid ((hba2.block hb (by omega)).trans R1.out)
  have A2 := Lib.hid hrow2
  have O2 : Hid (Owns .u8 5 w2 (hb + 1) v1 (putL 1196312914 4 ++ hdP (vs.take 0))) := by
    show Owns _ _ _ _ _ _
    have h := O1.out.below hba2
    rw [show putN 4 = 4 from rfl, List.nil_append] at h
    simpa [hdP] using h
  have B2 := Lib.hid (B1.out.trans (hba2.mono (by omega)))
  clear hrow2 hba2 hw2 z0 z1 z2 z3
  go_loopw [5, 20] (fun b i wr => ∃ k : Nat, k ≤ 4 ∧ i = .int .i64 k ∧ Hid (Owns .u8 5 wr (hb + 1) b (putL 1196312914 4 ++ hdP (vs.take k))) ∧ Hid (Below hb w0 wr) ∧ Hid (wr.heap[hb]? = some (.cells #[.int .u64 ht, .int .u64 hf, .int .u64 hx, .int .i64 hs] 76 (0, 0))) ∧ Hid (wr.heap[ab]? = some (.cells #[.int .u64 ht, .int .u64 hf, .int .u64 hx, .int .u64 hs] 29 (0, 0))) ∧ hb + 1 ≤ wr.heap.size ∧ ab < wr.heap.size) (fun _ i _ => 4 - (intOf i).toNat)
  case atStart => exact ⟨0, by omega, rfl, O2, B2, R2, A2, hl2, hab2⟩
  case round =>
    obtain ⟨k, hk, rfl, OW, BW, RW, AW, hlw, hawl⟩ := hrel
    clear O2 B2 R2 A2 hl2 hab2 O1 B1 R1 hl1 BA RA hla
    have HOL : Hid ((putL 1196312914 4 ++ hdP (vs.take k)).length = 4 + 8 * k) := by
      show _ = _
      rw [List.length_append, putL_len, hdP_len, List.length_take, HVL.out, Nat.min_eq_left hk]
    obtain ⟨a5, c5, rfl⟩ := OW.out.shapeN (4 + 8 * k) HOL.out
    by_cases hk4 : k < 4
    · have dk : decide ((k : Int) < 4) = true := decide_eq_true (by omega)
      have hv4 := HVB.out k hk4
      have hc : wr.cell? ⟨ab, k, none⟩ = some (.int .u64 (nth vs k)) := by
        rw [cell_of_row wr _ _ _ _ _ AW.out, ← HVS.out]
        match k, hk4 with
        | 0, _ => rfl
        | 1, _ => rfl
        | 2, _ => rfl
        | 3, _ => rfl
      obtain ⟨x, hx9⟩ : ∃ x, nth vs k = x := ⟨_, rfl⟩
      rw [hx9] at hv4 hc
      have HX9 := Lib.hid hx9
      clear hx9
      go_wp2_with fail
      refine (put_any a5 _ c5 _ x 8 wr OW.out.rd (by omega) hv4.1 hv4.2 (by omega) (by omega)).mono ?_
      rintro e w3 ⟨v3, rfl, ho3, hb3⟩
      have O3 := Lib.hid (ho3.mono hlw)
      have B3 := Lib.hid (BW.out.trans (hb3.mono (by omega)))
      have R3 := Lib.hid (row_keep RW.out hb3)
      have A3 := Lib.hid (row_keep AW.out hb3)
      have hl3 : hb + 1 ≤ w3.heap.size := Nat.le_trans hlw hb3.size
      have hl4 : ab < w3.heap.size := Nat.lt_of_lt_of_le hawl hb3.size
      clear ho3 hb3 hc
      go_wp2_with fail
      go_roundw
      case rel =>
        refine ⟨k + 1, by omega, by go_num, ?_, B3, R3, A3, hl3, hl4⟩
        have h := O3.out
        have e : putL 1196312914 4 ++ hdP (vs.take (k + 1)) = putL 1196312914 4 ++ hdP (vs.take k) ++ putL x (putN 8) := by
          rw [nth4 _ _ (by rw [HVL.out]; exact hk4), hdP_app, HX9.out, List.append_assoc]
          rw [show putN 8 = 8 from rfl]
          simp [hdP]
        rw [e]
        exact h
      case measure => simp [intOf] <;> omega
    · obtain rfl : k = 4 := by omega
      have O5 : Hid (Owns .u8 5 wr (hb + 1) (.slice a5 36 c5) BB) := by
        show Owns _ _ _ _ _ _
        have h := OW.out
        rw [List.take_of_length_le (by rw [HVL.out]; exact Nat.le_refl _), HBB.out] at h
        exact h
      have hl5 := hlw
      have B5 := BW
      have ROW : wr.heap[r]? = some (rowJ d sv J) := (B5.out.block r hrl).trans HR.out
      have HD5 := RW.out
      clear OW HOL AW
      go_wp2_with fail
      refine' reg_kill [(16, 15)] [eqV _, eqV _, eqV _, eqV _, eqV _, eqV _, eqV _, eqV _, eqV _, eqV _, eqV _, eqV _, eqV _, eqV _, eqV _, fun v w => ∃ a n c, v = Value.slice a n c ∧ Owns .u8 5 w (hb + 1) (Value.slice a n c) SS, fun v w => v = Value.int .i64 EE ∧ ∃ Q', RiIn w Q' r d ST J ∧ Tnd Q Q' w0 w, eqV _] [(15, fun w w' => Below (hb + 1) w w'), (16, fun w w' => True)] [(3, fun w => w.heap[r]? = some (rowJ d sv J)), (7, fun w => w.heap[r]? = some (rowJ d sv J)), (9, fun w => w.heap[hb]? = some (.cells #[.int .u64 ht, .int .u64 hf, .int .u64 hx, .int .i64 hs] 76 (0, 0))), (15, fun w => w.heap[r]? = some (rowJ d sv J) ∧ Owns .u8 5 w (hb + 1) (.slice a5 36 c5) BB ∧ hb + 1 ≤ w.heap.size), (16, fun w => Below hb w0 w)] [28, 29, 30, 31, 32, 33, 34, 35, 36, 37, 38, 39, 40, 41, 42, 43, 44, 4] [[], [0], [1], [2], [], [4], [5], [6], [], [8], [9], [10], [7, 11], [], [], [13, 14], [3, 12, 15], [16]] [0, 1, 2, 3, 4, 5, 6, 7, 8, 9, 10, 11, 12, 13, 14, 15, 16, 17] 18 (by kernel_rfl) (by kernel_rfl) ⟨eqV_stays _, eqV_stays _, eqV_stays _, eqV_stays _, eqV_stays _, eqV_stays _, eqV_stays _, eqV_stays _, eqV_stays _, eqV_stays _, eqV_stays _, eqV_stays _, eqV_stays _, eqV_stays _, eqV_stays _, fun _ _ _ p b => p.elim fun a q => q.elim fun n q => q.elim fun c q => ⟨a, n, c, q.1, q.2.below b⟩, fun _ _ _ p b => ⟨p.1, p.2.elim fun Q' q => ⟨Q', q.1.below b, q.2.below_r b⟩⟩, eqV_stays _, trivial⟩ ⟨⟨.inl (eqV_stays _), .inl (eqV_stays _), .inl (eqV_stays _), .inl (eqV_stays _), .inl (eqV_stays _), .inl (eqV_stays _), .inl (eqV_stays _), .inl (eqV_stays _), .inl (eqV_stays _), .inl (eqV_stays _), .inl (eqV_stays _), .inl (eqV_stays _), .inl (eqV_stays _), .inl (eqV_stays _), .inl (eqV_stays _), .inr (.inr (.inl rfl)), .inr (.inl (by kernel_rfl)), .inl (eqV_stays _), trivial⟩, ⟨.inl (eqV_stays _), .inl (eqV_stays _), .inl (eqV_stays _), .inl (eqV_stays _), .inl (eqV_stays _), .inl (eqV_stays _), .inl (eqV_stays _), .inl (eqV_stays _), .inl (eqV_stays _), .inl (eqV_stays _), .inl (eqV_stays _), .inl (eqV_stays _), .inl (eqV_stays _), .inl (eqV_stays _), .inl (eqV_stays _), .inr (.inr (.inr (by kernel_rfl))), .inr (.inr (.inl rfl)), .inl (eqV_stays _), trivial⟩, trivial⟩ ⟨fun _ _ p b => row_keep p b, fun _ _ p b => row_keep p b, fun _ _ p b => row_keep p b, fun _ _ p b => ⟨row_keep p.1 b, Owns.below p.2.1 b, Nat.le_trans p.2.2 b.size⟩, fun _ _ p b => p.trans (b.mono (by have := p.size; omega)), trivial⟩ ⟨⟨.inl (fun _ _ p g => (g.block r (Nat.lt_succ_of_lt hrl)).trans p), .inl (fun _ _ p g => (g.block r (Nat.lt_succ_of_lt hrl)).trans p), .inl (fun _ _ p g => (g.block hb (Nat.lt_succ_self _)).trans p), .inr (.inr rfl), .inl (fun _ _ p g => p.trans (g.mono (Nat.le_succ hb))), trivial⟩, ⟨.inr (.inl (by kernel_rfl)), .inr (.inl (by kernel_rfl)), .inr (.inl (by kernel_rfl)), .inr (.inl (by kernel_rfl)), .inr (.inr rfl), trivial⟩, trivial⟩ ⟨ROW, ROW, HD5, ⟨ROW, O5.out, hl5⟩, below_drew B5.out, trivial⟩ 45 rfl (by kernel_rfl) (by kernel_rfl) rfl rfl 18 rfl ?q1obl ?q1fin
      case q1obl =>
        refine And.intro ?q1o0 (And.intro ?q1o1 (And.intro ?q1o2 (And.intro ?q1o3 (And.intro ?q1o4 (And.intro ?q1o5 (And.intro ?q1o6 (And.intro ?q1o7 (And.intro ?q1o8 (And.intro ?q1o9 (And.intro ?q1o10 (And.intro ?q1o11 (And.intro ?q1o12 (And.intro ?q1o13 (And.intro ?q1o14 (And.intro ?q1o15 (And.intro ?q1o16 (And.intro ?q1o17 (True.intro))))))))))))))))))
        case q1o0 =>
          intro w1 hI
          refine turn2_on (by rfl) ?_
          intro K hK
          go_simp
          refine hK _ _ ⟨rfl, Kept.refl _, ?_⟩
          show _ = _
          simp only [gv1]
          rfl
        case q1o1 =>
          intro w1 hI
          intro v0 h0
          change _ = _ at h0
          subst v0
          refine turn2_on (by rfl) ?_
          intro K hK
          simp only [gv2]
          go_simp
          refine hK _ _ ⟨rfl, Kept.refl _, ?_⟩
          show _ = _
          simp only [gv1]
          rfl
        case q1o2 =>
          intro w1 hI
          intro v1 h1
          change _ = _ at h1
          subst v1
          refine turn2_on (by rfl) ?_
          intro K hK
          simp only [gv2]
          go_simp
          refine hK _ _ ⟨rfl, Kept.refl _, ?_⟩
          show _ = _
          simp only [gv1]
          rfl
        case q1o3 =>
          intro w1 hI
          replace hI : (fun w => w.heap[r]? = some (rowJ d sv J)) w1 := hI
          intro v2 h2
          change _ = _ at h2
          subst v2
          refine turn2_on (by rfl) ?_
          intro K hK
          simp only [gv2]
          obtain ⟨y0, y1, y2, y3, y4, y5, y6, y7, y8, yf⟩ := cellsJ hI
          clear hI
          go_simp
          refine hK _ _ ⟨rfl, Kept.refl _, ?_⟩
          show _ = _
          simp only [gv1]
          rfl
        case q1o4 =>
          intro w1 hI
          refine turn2_on (by rfl) ?_
          intro K hK
          go_simp
          refine hK _ _ ⟨rfl, Kept.refl _, ?_⟩
          show _ = _
          simp only [gv1]
          rfl
        case q1o5 =>
          intro w1 hI
          intro v4 h4
          change _ = _ at h4
          subst v4
          refine turn2_on (by rfl) ?_
          intro K hK
          simp only [gv2]
          go_simp
          refine hK _ _ ⟨rfl, Kept.refl _, ?_⟩
          show _ = _
          simp only [gv1]
          rfl
        case q1o6 =>
          intro w1 hI
          intro v5 h5
          change _ = _ at h5
          subst v5
          refine turn2_on (by rfl) ?_
          intro K hK
          simp only [gv2]
          go_simp
          refine hK _ _ ⟨rfl, Kept.refl _, ?_⟩
          show _ = _
          simp only [gv1]
          rfl
        case q1o7 =>
          intro w1 hI
          replace hI : (fun w => w.heap[r]? = some (rowJ d sv J)) w1 := hI
          intro v6 h6
          change _ = _ at h6
          subst v6
          refine turn2_on (by rfl) ?_
          intro K hK
          simp only [gv2]
          obtain ⟨y0, y1, y2, y3, y4, y5, y6, y7, y8, yf⟩ := cellsJ hI
          clear hI
          go_simp
          refine hK _ _ ⟨rfl, Kept.refl _, ?_⟩
          show _ = _
          simp only [gv1]
          rfl
        case q1o8 =>
          intro w1 hI
          refine turn2_on (by rfl) ?_
          intro K hK
          go_simp
          refine hK _ _ ⟨rfl, Kept.refl _, ?_⟩
          show _ = _
          simp only [gv1]
          rfl
        case q1o9 =>
          intro w1 hI
          replace hI : (fun w => w.heap[hb]? = some (.cells #[.int .u64 ht, .int .u64 hf, .int .u64 hx, .int .i64 hs] 76 (0, 0))) w1 := hI
          intro v8 h8
          change _ = _ at h8
          subst v8
          refine turn2_on (by rfl) ?_
          intro K hK
          simp only [gv2]
          obtain ⟨q0, q1, q2, q3⟩ := cells4 hI
          clear hI
          go_simp
          refine hK _ _ ⟨rfl, Kept.refl _, ?_⟩
          show _ = _
          simp only [gv1]
          rfl
        case q1o10 =>
          intro w1 hI
          intro v9 h9
          change _ = _ at h9
          subst v9
          refine turn2_on (by rfl) ?_
          intro K hK
          simp only [gv2]
          go_simp
          refine hK _ _ ⟨rfl, Kept.refl _, ?_⟩
          show _ = _
          simp only [gv1]
          rfl
        case q1o11 =>
          intro w1 hI
          intro v10 h10
          change _ = _ at h10
          subst v10
          refine turn2_on (by rfl) ?_
          intro K hK
          simp only [gv2]
          go_simp
          refine hK _ _ ⟨rfl, Kept.refl _, ?_⟩
          show _ = _
          simp only [gv1]
          rfl
        case q1o12 =>
          intro w1 hI
          intro v7 h7
          change _ = _ at h7
          subst v7
          intro v11 h11
          change _ = _ at h11
          subst v11
          refine turn2_on (by rfl) ?_
          intro K hK
          simp only [gv2]
          go_simp
          refine hK _ _ ⟨rfl, Kept.refl _, ?_⟩
          show _ = _
          simp only [gv1]
          rfl
        case q1o13 =>
          intro w1 hI
          refine turn2_on (by rfl) ?_
          intro K hK
          go_simp
          refine hK _ _ ⟨rfl, Kept.refl _, ?_⟩
          show _ = _
          simp only [gv1]
          rfl
        case q1o14 =>
          intro w1 hI
          refine turn2_on (by rfl) ?_
          intro K hK
          go_simp
          refine hK _ _ ⟨rfl, Kept.refl _, ?_⟩
          show _ = _
          simp only [gv1]
          rfl
        case q1o15 =>
          intro w1 hI
          replace hI : (fun w => w.heap[r]? = some (rowJ d sv J) ∧ Owns .u8 5 w (hb + 1) (.slice a5 36 c5) BB ∧ hb + 1 ≤ w.heap.size) w1 := hI
          intro v13 h13
          change _ = _ at h13
          subst v13
          intro v14 h14
          change _ = _ at h14
          subst v14
          refine turn2_on (by rfl) ?_
          intro K hK
          simp only [gv2]
          obtain ⟨i1, i2, i3⟩ := hI
          go_simp
          refine Calls.mono (sector_any r d sv J w1 i1 OK.out (hb + 1) _ BB i2 i3 HBL.out) ?_
          rintro e w2 ⟨v2, rfl, ho2, hb2⟩
          rw [HSB.out] at ho2
          obtain ⟨a2, c2, rfl⟩ := ho2.shape
          refine hK _ _ ⟨rfl, hb2, ?_⟩
          show ∃ a n c, _ = Value.slice a n c ∧ Owns .u8 5 w2 (hb + 1) (Value.slice a n c) SS
          simp only [gv1]
          exact ⟨_, _, _, rfl, ho2.mono i3⟩
        case q1o16 =>
          intro w1 hI
          replace hI : (fun w => Below hb w0 w) w1 := hI
          intro v3 h3
          change _ = _ at h3
          subst v3
          intro v12 h12
          change _ = _ at h12
          subst v12
          intro v15 h15
          obtain ⟨a15, n15, c15, rfl, h15⟩ := h15
          refine turn2_on (by rfl) ?_
          intro K hK
          simp only [gv2]
          go_simp
          rw [HW40.out]
          refine Calls.mono (HWR.out w1 _ _ _ hI h15) ?_
          rintro e w2 ⟨rfl, h2⟩
          refine hK _ _ ⟨rfl, trivial, ?_⟩
          show _ = Value.int .i64 EE ∧ ∃ Q', RiIn w2 Q' r d ST J ∧ Tnd Q Q' w0 w2
          simp only [gv1]
          exact ⟨trivial, h2⟩
        case q1o17 =>
          intro w1 hI
          intro v16 h16
          obtain ⟨rfl, h16⟩ := h16
          refine turn2_on (by rfl) ?_
          intro K hK
          simp only [gv2]
          go_simp
          refine hK _ _ ⟨rfl, Kept.refl _, ?_⟩
          show _ = _
          simp only [gv1]
          rfl
      intro w9 hI
      intro v0 h0
      replace h0 := h0 (by kernel_rfl)
      change _ = _ at h0
      subst v0
      intro v1 h1
      replace h1 := h1 (by kernel_rfl)
      change _ = _ at h1
      subst v1
      intro v2 h2
      replace h2 := h2 (by kernel_rfl)
      change _ = _ at h2
      subst v2
      intro v3 h3
      replace h3 := h3 (by kernel_rfl)
      change _ = _ at h3
      subst v3
      intro v4 h4
      replace h4 := h4 (by kernel_rfl)
      change _ = _ at h4
      subst v4
      intro v5 h5
      replace h5 := h5 (by kernel_rfl)
      change _ = _ at h5
      subst v5
      intro v6 h6
      replace h6 := h6 (by kernel_rfl)
      change _ = _ at h6
      subst v6
      intro v7 h7
      replace h7 := h7 (by kernel_rfl)
      change _ = _ at h7
      subst v7
      intro v8 h8
      replace h8 := h8 (by kernel_rfl)
      change _ = _ at h8
      subst v8
      intro v9 h9
      replace h9 := h9 (by kernel_rfl)
      change _ = _ at h9
      subst v9
      intro v10 h10
      replace h10 := h10 (by kernel_rfl)
      change _ = _ at h10
      subst v10
      intro v11 h11
      replace h11 := h11 (by kernel_rfl)
      change _ = _ at h11
      subst v11
      intro v12 h12
      replace h12 := h12 (by kernel_rfl)
      change _ = _ at h12
      subst v12
      intro v13 h13
      replace h13 := h13 (by kernel_rfl)
      change _ = _ at h13
      subst v13
      intro v14 h14
      replace h14 := h14 (by kernel_rfl)
      change _ = _ at h14
      subst v14
      intro v15 _
      intro v16 h16
      replace h16 := h16 (by kernel_rfl)
      obtain ⟨rfl, h16⟩ := h16
      intro v17 h17
      replace h17 := h17 (by kernel_rfl)
      change _ = _ at h17
      subst v17
      simp only [Given, gv2]
      go_wp2_with fail
      go_ret
      exact ⟨rfl, h16⟩
end Go.Proofs.Ytlhpdkapddnbcaa
