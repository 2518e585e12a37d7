/- The law's written; two readers side by side; what was written is read so. -/
import Derived.Test.YtnlhpfcepbmbfaaRRdB
import Derived.Test.YtnlhpfcepbmbfaaStr
import Derived.Test.YtnlhpfcepbmbfaaBackVar
import Derived.Test.YtnlhpfcepbmbfaaRdLaw
import Derived.Test.YtnlhpfcepbmbfaaWriter
import Derived.Test.YtnlhpfcepbmbfaaRCW
import Derived.Test.YtnlhpfcepbmbfaaItemsFew
namespace Go.Proofs.Ytnlhpfcepbmbfaa
open Go.RowKit
/-- An item's bytes. -/
def itemF (A : ItemP) : List Int :=
  if A.kind = 1 then varF 9 (zigI A.v) else if A.kind = 2 then varF 9 (zigI A.bs.length) ++ A.bs else if A.kind = 3 then varF 9 (zigI A.ls.length) ++ listF A.ls else []
def itemsF : List ItemP → List Int
  | [] => []
  | A :: r => itemF A ++ itemsF r
theorem itemsF_snoc (L : List ItemP) (A : ItemP) : itemsF (L ++ [A]) = itemsF L ++ itemF A := by
  induction L with
  | nil => simp [itemsF]
  | cons y r ih => simp only [List.cons_append, itemsF, ih, List.append_assoc]
theorem itemsF_take {L : List ItemP} {k : Nat} {A : ItemP} (h : L[k]? = some A) : itemsF (L.take (k + 1)) = itemsF (L.take k) ++ itemF A := by
  rw [List.take_add_one, h, ← itemsF_snoc]; rfl
theorem itemF_len (A : ItemP) : (itemF A).length ≤ 10 * (A.bs.length + A.ls.length + 1) := by
  unfold itemF
  split
  · have := (varF_len 9 (zigI A.v)).2; omega
  · split
    · have := (varF_len 9 (zigI A.bs.length)).2; rw [List.length_append]; omega
    · split
      · have h1 := (varF_len 9 (zigI A.ls.length)).2; have h2 := listF_len A.ls; rw [List.length_append]; omega
      · simp
theorem itemsF_len (L : List ItemP) : (itemsF L).length ≤ 10 * (sumItem L + L.length) := by
  induction L with
  | nil => simp [itemsF]
  | cons A r ih =>
    have := itemF_len A
    rw [itemsF, List.length_append, sumItem, List.length_cons]
    omega
section
variable {k : IntKind} {T e : TypeId} {w w' : World} {h : Nat} {v : Value} {l : List Int}
theorem Owns.spared {row : Option Nat} {w0 : World} {base : Nat} (o : Owns k e w0 base v l) (s : Spared h row w0 w) (hne : ∀ g, room v = some g → g ≠ h ∧ some g ≠ row) : Owns k e w base v l := by
  by_cases hr : room v = none
  · refine ⟨o.1, ?_⟩
    rcases o.2 with h2 | h2
    · exact .inl h2
    · rcases h2.2 with ⟨hv, hn⟩ | ⟨g, cap, cur, hv, hb, hh, hnc, hcm, hcs, ht⟩
      · exact .inl ⟨List.eq_nil_of_length_eq_zero hn, none, hv, fun _ h => by cases h⟩
      · have hc : cap = 0 := by
          subst hv
          unfold room at hr
          simp at hr
          exact hr
        subst hc
        have hl : l.length = 0 := by omega
        exact .inl ⟨List.eq_nil_of_length_eq_zero hl, _, by rw [hv, hl], fun x h => by injection h with h; rw [← h]⟩
  · obtain ⟨g, hgr⟩ := Option.ne_none_iff_exists'.1 hr
    obtain ⟨h1, h2⟩ := hne g hgr
    refine ⟨o.1, o.2.imp id fun h3 => ⟨h3.1, ?_⟩⟩
    rcases h3.2 with h4 | ⟨g', cap, cur, hv, hb, hh, r⟩
    · exact .inl h4
    · have hgg : g = g' := by
        have h5 := room_some hgr
        rw [hv] at h5
        injection h5 with h5
        exact h5.symm
      subst hgg
      refine .inr ⟨g, cap, cur, hv, hb, ?_, r⟩
      rw [s.block g (Array.getElem?_eq_some_iff.1 hh).1 h1 h2]
      exact hh
/-- While another row is written, the variable stays. -/
theorem VarAt.apart {row : Option Nat} (o : VarAt k T e w h v l) (g : w.grownBy w' row) (h1 : row ≠ some h) (h2 : ∀ q, room v = some q → some q ≠ row) : VarAt k T e w' h v l :=
  ⟨grown_row o.row g h1, o.own.grown g h2⟩
end
/-- Two slices have no room in common. -/
def Apart2 (v v' : Value) : Prop := ∀ g, room v = some g → room v' ≠ some g
theorem below_spared {B h : Nat} {row : Option Nat} {w0 w w' : World} (hb : Below B w0 w) (s : Spared h row w w') (hB : B ≤ w.heap.size) (hh : B ≤ h) (hr : ∀ q, row = some q → B ≤ q) : Below B w0 w' :=
  ⟨s.os.trans hb.os, s.tape.trans hb.tape, s.output.trans hb.output, Nat.le_trans hb.size s.size, fun g hg => (s.block g (by omega) (by omega) (fun e => by have := hr g e.symm; omega)).trans (hb.block g hg)⟩
/-- The state of 'written' when so much has been written. -/
structure WrSt (w wr : World) (h : Nat) (v b : Value) (l : List Int) : Prop where
  var : VarAt .u8 92 5 wr h v l
  own : Owns .u8 5 wr (h + 1) b l
  apart : Apart2 v b
  below : Below w.heap.size w wr
  lo : w.heap.size ≤ h
theorem WrSt.roomLo {w wr : World} {h : Nat} {v b : Value} {l : List Int} (s : WrSt w wr h v b l) : ∀ g, room v = some g → h + 1 ≤ g ∧ g < wr.heap.size := fun g hg => s.var.own.at_base g hg
theorem WrSt.bLo {w wr : World} {h : Nat} {v b : Value} {l : List Int} (s : WrSt w wr h v b l) : ∀ g, room b = some g → h + 1 ≤ g ∧ g < wr.heap.size := fun g hg => s.own.at_base g hg
/-- The first half of a step: the writer has been written to. -/
structure WrMid (w wr w2 : World) (h : Nat) (v v2 b : Value) (l l2 : List Int) : Prop where
  var : VarAt .u8 92 5 w2 h v2 l2
  own : Owns .u8 5 w2 (h + 1) b l
  apart : Apart2 v2 b
  below : Below w.heap.size w w2
  lo : w.heap.size ≤ h
theorem WrSt.mid {w wr w2 : World} {h : Nat} {v v2 b : Value} {l l2 : List Int} (s : WrSt w wr h v b l) (ho : VarAt .u8 92 5 w2 h v2 l2) (hn : NewRoom wr v v2) (hs : Spared h (room v) wr w2) : WrMid w wr w2 h v v2 b l l2 := by
  have hA : Apart2 v2 b := by
    intro g hg hb
    rcases hn with e | e
    · exact s.apart g (by rw [← e]; exact hg) hb
    · have h1 := e g hg
      have h2 := (s.bLo g hb).2
      omega
  refine ⟨ho, s.own.spared hs (fun g hg => ⟨fun e => by have := (s.bLo g hg).1; omega, fun e => s.apart g e.symm hg⟩), hA, ?_, s.lo⟩
  exact below_spared s.below hs s.below.size s.lo (fun q hq => by have := (s.roomLo q hq).1; have := s.lo; omega)
theorem WrMid.fin {w wr w2 w3 : World} {h : Nat} {v v2 b b3 : Value} {l l2 : List Int} (s : WrMid w wr w2 h v v2 b l l2) (ho : Owns .u8 5 w3 (h + 1) b3 l2) (hg : Grows w2 b w3 b3) : WrSt w w3 h v2 b3 l2 := by
  have hbl := fun g hg => s.own.at_base (g := g) hg
  have hvl := fun g hg => s.var.own.at_base (g := g) hg
  refine ⟨s.var.apart hg.1 (fun e => by have := (hbl h e).1; omega) (fun q hq e => s.apart q hq e.symm), ho, ?_, ?_, s.lo⟩
  · intro g hg1 hg2
    rcases hg.2 with e | e
    · exact s.apart g hg1 (by rw [← e]; exact hg2)
    · have h1 := e g hg2
      have h2 := (hvl g hg1).2
      omega
  · exact s.below.grown hg.1 s.below.size (fun g hg1 => by have := (hbl g hg1).1; have := s.lo; omega)
set_option linter.unusedSimpArgs false in
set_option linter.unusedVariables false in
set_option maxRecDepth 100000 in
set_option maxHeartbeats 2000000 in
theorem written_any (a : Option Addr) (n c : Nat) (L : List ItemP) (w : World) (h : ItemsAt w a n L) (hb : sumItem L + n ≤ 8192) :
    Calls Try.prog 22 #[.slice a n c] w fun e w' => ∃ x y, e = .returned (.tuple #[x, y]) ∧ Owns .u8 5 w' w.heap.size x (itemsF L) ∧ Owns .u8 5 w' w.heap.size y (itemsF L) ∧ Below w.heap.size w w' := by
  have H := Lib.hid h
  have HLN := Lib.hid h.len
  have HBD : Hid (∀ k, (itemsF (L.take k)).length ≤ 81920) := fun k => by
    have h1 := itemsF_len (L.take k)
    have h2 := sumItem_le (L := L) k
    have h3 : (L.take k).length ≤ n := by rw [List.length_take, h.len]; omega
    omega
  have hn : n ≤ 8192 := by omega
  clear h
  go_enter Try.func22, Try.ntmps22
  go_wp2_with fail
  refine (newwriter_any w).mono ?_
  rintro e w1 ⟨rfl, hv1, hb1⟩
  have S1 : Hid (WrSt w w1 w.heap.size (.slice none 0 0) (.slice none 0 0) (itemsF (L.take 0))) := by
    show WrSt _ _ _ _ _ _
    rw [List.take_zero]
    exact ⟨hv1, Owns.nil _ _ _ _, (fun g hg => by cases hg), hb1, Nat.le_refl _⟩
  obtain ⟨hh, hhe⟩ : ∃ hh, w.heap.size = hh := ⟨_, rfl⟩
  clear hv1 hb1
  rw [hhe] at S1 ⊢
  have HHE := Lib.hid hhe
  clear hhe
  go_wp2_with fail
  go_loopw [5, 6] (fun b i wr => ∃ (k : Nat) (v : Value) (ab : Option Addr) (nb cb : Nat), k ≤ n ∧ i = .int .i64 k ∧ b = .slice ab nb cb ∧ Hid (WrSt w wr hh v (.slice ab nb cb) (itemsF (L.take k)))) (fun _ i _ => n - (intOf i).toNat)
  case atStart => exact ⟨0, _, _, _, _, by omega, rfl, rfl, S1⟩
  case round =>
    clear S1
    obtain ⟨k, v, ab, nb, cb, hk, rfl, rfl, ST⟩ := hrel
    by_cases hkn : k < n
    · obtain ⟨A, hA⟩ : ∃ A, L[k]? = some A := ⟨_, List.getElem?_eq_getElem (by rw [HLN.out]; exact hkn)⟩
      obtain ⟨b, o, rfl, hat⟩ := H.out.at_ k A hA
      have htk := itemsF_take hA
      have hsk := sumItem_take hA
      have hle := sumItem_le (L := L) (k + 1)
      obtain ⟨⟨a2, n2, c2, a3, n3, c3, e0, e1, e2, e3, e4, e5, r2, r3⟩, hwf⟩ := hat
      have hlt : ∀ (i : Nat) (v : Value), w.cell? ⟨b, i, none⟩ = some v → wr.cell? ⟨b, i, none⟩ = some v := fun i v hv => by
        rw [← hv]; exact World.cell?_of_block (a := ⟨b, i, none⟩) (ST.out.below.block b (block_lt_of_cell hv))
      have HLT := Lib.hid hlt
      have E0 := Lib.hid e0
      have E1 := Lib.hid e1
      have E2 := Lib.hid e2
      have E3 := Lib.hid e3
      have l2 := r2.len
      have l3 := r3.len
      obtain ⟨kd, x, bs, ls, lo, hi⟩ := A
      replace l2 : bs.length = n2 := l2
      replace l3 : ls.length = n3 := l3
      replace hsk : sumItem (L.take (k + 1)) = sumItem (L.take k) + (bs.length + ls.length) := hsk
      have hn2 : n2 ≤ 8192 := by omega
      have hn3 : n3 ≤ 8192 := by omega
      have hx1 := wf_i64_bd (x := x) hwf.2.1
      have hbk := HBD.out k
      replace r2 : RdAt .u8 w a2 n2 c2 bs := r2
      replace r3 : RdAt .i64 w a3 n3 c3 ls := r3
      have R2 := Lib.hid r2
      have R3 := Lib.hid r3
      have HTK := Lib.hid htk
      have L2 := Lib.hid l2
      have L3 := Lib.hid l3
      replace e0 : wr.cell? ⟨b, o + k * 6, none⟩ = some (.int .i64 kd) := hlt _ _ e0
      clear hA hlt hsk hle l2 l3 e1 e2 e3 e4 e5 r2 r3 htk hwf
      by_cases q1 : kd = 1
      · subst q1
        have hf : Hid (itemsF (L.take (k + 1)) = itemsF (L.take k) ++ varF 9 (zigI x)) := by show _ = _; rw [HTK.out]; unfold itemF; rw [if_pos rfl]
        have e1 : wr.cell? ⟨b, o + k * 6 + 1, none⟩ = some (.int .i64 x) := HLT.out _ _ E1.out
        go_wp2_with fail
        refine (wint_any hh v _ x wr ST.out.var (by omega) hx1.1 hx1.2).mono ?_
        rintro e w2 ⟨rfl, ⟨v2, ho2, hn2'⟩, hs2⟩
        have MID := Lib.hid (ST.out.mid ho2 hn2' hs2)
        have hsz : hh + 1 ≤ w2.heap.size := by have := ho2.lt; omega
        clear ho2 hn2' hs2 e0 e1
        have e1 : w2.cell? ⟨b, o + k * 6 + 1, none⟩ = some (.int .i64 x) := by rw [← E1.out]; exact World.cell?_of_block (a := ⟨b, o + k * 6 + 1, none⟩) (MID.out.below.block b (block_lt_of_cell E1.out))
        go_wp2_with fail
        refine (rcint_any _ _ x w2 (hh + 1) MID.out.own hsz (by omega) hx1.1 hx1.2).mono ?_
        rintro e w3 ⟨r, rfl, ho3, hg3⟩
        obtain ⟨a4, c4, hr4⟩ := ho3.shape
        obtain ⟨n4, hn4⟩ : ∃ n4, (itemsF (L.take k) ++ varF 9 (zigI x)).length = n4 := ⟨_, rfl⟩
        rw [hn4] at hr4
        subst hr4
        have FIN := Lib.hid (MID.out.fin ho3 hg3)
        clear ho3 hg3 hn4 e1
        go_wp2_with fail
        go_roundw
        case rel => exact ⟨k + 1, v2, a4, n4, c4, by omega, by go_num, rfl, by show WrSt _ _ _ _ _ _; rw [hf.out]; exact FIN.out⟩
        case measure => simp [intOf] <;> omega
      · have d1 : (kd == 1) = false := by simpa using q1
        by_cases q2 : kd = 2
        · subst q2
          have hf : Hid (itemsF (L.take (k + 1)) = itemsF (L.take k) ++ varF 9 (zigI n2) ++ bs) := by show _ = _; rw [HTK.out]; unfold itemF; rw [if_neg (show ¬ (2 : Int) = 1 by decide), if_pos rfl, List.append_assoc]; rw [← L2.out]
          have e2 : wr.cell? ⟨b, o + k * 6 + 2, none⟩ = some (.slice a2 n2 c2) := HLT.out _ _ E2.out
          have hne : ∀ y, a2 = some y → 0 < n2 → y.block < hh := fun y hy hp => by
            obtain ⟨b', o', h1, h2⟩ := R2.out.cell 0 hp
            rw [h1] at hy
            injection hy with hy
            rw [← hy]
            have h3 : b' < w.heap.size := block_lt_of_cell h2
            rw [HHE.out] at h3
            exact h3
          have HNE := Lib.hid hne
          clear hne
          go_wp2_with fail
          refine (wbytes_any hh v _ a2 n2 c2 bs wr ST.out.var (by omega) (R2.out.below ST.out.below) (fun y hy hp => ⟨Nat.ne_of_lt (HNE.out y hy hp), fun e => by have h1 := (ST.out.roomLo _ e.symm).1; have h2 := HNE.out y hy hp; omega⟩)).mono ?_
          rintro e w2 ⟨rfl, ⟨v2, ho2, hn2'⟩, hs2⟩
          have MID := Lib.hid (ST.out.mid ho2 hn2' hs2)
          have hsz : hh + 1 ≤ w2.heap.size := by have := ho2.lt; omega
          clear ho2 hn2' hs2 e0 e2
          have e2 : w2.cell? ⟨b, o + k * 6 + 2, none⟩ = some (.slice a2 n2 c2) := by rw [← E2.out]; exact World.cell?_of_block (a := ⟨b, o + k * 6 + 2, none⟩) (MID.out.below.block b (block_lt_of_cell E2.out))
          go_wp2_with fail
          refine (rcbytes_any _ _ a2 n2 c2 bs w2 (hh + 1) MID.out.own hsz (by omega) (by omega) (R2.out.below MID.out.below) (fun y hy hp e => by have h1 := (MID.out.own.at_base _ e.symm).1; have h2 := HNE.out y hy hp; omega)).mono ?_
          rintro e w3 ⟨r, rfl, ho3, hg3⟩
          obtain ⟨a4, c4, hr4⟩ := ho3.shape
          obtain ⟨n4, hn4⟩ : ∃ n4, (itemsF (L.take k) ++ varF 9 (zigI n2) ++ bs).length = n4 := ⟨_, rfl⟩
          rw [hn4] at hr4
          subst hr4
          have FIN := Lib.hid (MID.out.fin ho3 hg3)
          clear ho3 hg3 hn4 e2
          go_wp2_with fail
          go_roundw
          case rel => exact ⟨k + 1, v2, a4, n4, c4, by omega, by go_num, rfl, by show WrSt _ _ _ _ _ _; rw [hf.out]; exact FIN.out⟩
          case measure => simp [intOf] <;> omega
        · have d2 : (kd == 2) = false := by simpa using q2
          by_cases q3 : kd = 3
          · subst q3
            have hf : Hid (itemsF (L.take (k + 1)) = itemsF (L.take k) ++ varF 9 (zigI n3) ++ listF ls) := by show _ = _; rw [HTK.out]; unfold itemF; rw [if_neg (show ¬ (3 : Int) = 1 by decide), if_neg (show ¬ (3 : Int) = 2 by decide), if_pos rfl, List.append_assoc]; rw [← L3.out]
            have e3 : wr.cell? ⟨b, o + k * 6 + 3, none⟩ = some (.slice a3 n3 c3) := HLT.out _ _ E3.out
            have hne : ∀ y, a3 = some y → 0 < n3 → y.block < hh := fun y hy hp => by
              obtain ⟨b', o', h1, h2⟩ := R3.out.cell 0 hp
              rw [h1] at hy
              injection hy with hy
              rw [← hy]
              have h3 : b' < w.heap.size := block_lt_of_cell h2
              rw [HHE.out] at h3
              exact h3
            have HNE := Lib.hid hne
            clear hne
            go_wp2_with fail
            refine (wlist_any hh v _ a3 n3 c3 ls wr ST.out.var (by omega) (R3.out.below ST.out.below) (fun y hy hp => ⟨Nat.ne_of_lt (HNE.out y hy hp), fun e => by have h1 := (ST.out.roomLo _ e.symm).1; have h2 := HNE.out y hy hp; omega⟩)).mono ?_
            rintro e w2 ⟨rfl, ⟨v2, ho2, hn2'⟩, hs2⟩
            have MID := Lib.hid (ST.out.mid ho2 hn2' hs2)
            have hsz : hh + 1 ≤ w2.heap.size := by have := ho2.lt; omega
            clear ho2 hn2' hs2 e0 e3
            have e3 : w2.cell? ⟨b, o + k * 6 + 3, none⟩ = some (.slice a3 n3 c3) := by rw [← E3.out]; exact World.cell?_of_block (a := ⟨b, o + k * 6 + 3, none⟩) (MID.out.below.block b (block_lt_of_cell E3.out))
            go_wp2_with fail
            refine (rclist_any _ _ a3 n3 c3 ls w2 (hh + 1) MID.out.own hsz (by omega) (by omega) (R3.out.below MID.out.below) (fun y hy hp e => by have h1 := (MID.out.own.at_base _ e.symm).1; have h2 := HNE.out y hy hp; omega)).mono ?_
            rintro e w3 ⟨r, rfl, ho3, hg3⟩
            obtain ⟨a4, c4, hr4⟩ := ho3.shape
            obtain ⟨n4, hn4⟩ : ∃ n4, (itemsF (L.take k) ++ varF 9 (zigI n3) ++ listF ls).length = n4 := ⟨_, rfl⟩
            rw [hn4] at hr4
            subst hr4
            have FIN := Lib.hid (MID.out.fin ho3 hg3)
            clear ho3 hg3 hn4 e3
            go_wp2_with fail
            go_roundw
            case rel => exact ⟨k + 1, v2, a4, n4, c4, by omega, by go_num, rfl, by show WrSt _ _ _ _ _ _; rw [hf.out]; exact FIN.out⟩
            case measure => simp [intOf] <;> omega
          · have d3 : (kd == 3) = false := by simpa using q3
            have hf : Hid (itemsF (L.take (k + 1)) = itemsF (L.take k)) := by show _ = _; rw [HTK.out]; unfold itemF; rw [if_neg q1, if_neg q2, if_neg q3, List.append_nil]
            clear q1 q2 q3
            go_wp2_with fail
            go_roundw
            case rel => exact ⟨k + 1, v, ab, nb, cb, by omega, by go_num, rfl, by show WrSt _ _ _ _ _ _; rw [hf.out]; exact ST.out⟩
            case measure => simp [intOf] <;> omega
    · obtain rfl : k = n := by omega
      have hall : L.take k = L := List.take_of_length_le (by rw [HLN.out]; omega)
      have hbk := HBD.out k
      rw [hall] at ST hbk
      have hbelow := ST.out.below
      have HB := Lib.hid hbelow
      have hlo := ST.out.lo
      clear hall hbelow
      go_wp2_with fail
      refine (wdone_any hh v _ wr ST.out.var (by omega)).mono ?_
      rintro e w2 ⟨x, rfl, hox, hbx⟩
      obtain ⟨ax, cx, hrx⟩ := hox.shape
      obtain ⟨nx, hnx⟩ : ∃ nx, (itemsF L).length = nx := ⟨_, rfl⟩
      rw [hnx] at hrx
      subst hrx
      have HOX := Lib.hid (hox.mono (show hh ≤ wr.heap.size by have := ST.out.var.lt; omega))
      have HOB := Lib.hid ((ST.out.own.below hbx).mono (show hh ≤ hh + 1 by omega))
      have HB2 := Lib.hid (HB.out.trans (hbx.mono HB.out.size))
      clear hox hbx hnx
      go_wp2_with fail
      go_ret2
      rw [← HHE.out]
      refine ⟨_, _, rfl, ?_, ?_, HB2.out⟩
      · rw [HHE.out]; exact HOX.out
      · rw [HHE.out]; exact HOB.out
theorem typed_ne {w : World} {a : Option Addr} {n c : Nat} {l : List Int} {h : Nat} {x0 : Option Addr} {x1 x2 : Nat} {e : Int} {T : TypeId} (r : RdAt .u8 w a n c l) (row : w.heap[h]? = some (.cells #[.slice x0 x1 x2, .int .i64 e] T (0, 0))) : ∀ q, a = some q → 0 < n → q.block ≠ h := by
  intro q hq hn hb
  obtain ⟨b, o, e1, hc⟩ := r.cell 0 hn
  rw [hq] at e1
  injection e1 with e1
  subst e1
  replace hb : b = h := hb
  subst hb
  rw [cell_of_row w _ _ _ _ _ row] at hc
  rcases o with _ | _ | o
  · cases hc
  · cases hc
  · cases hc
theorem RRIn.row {w : World} {h : Nat} {l : List Int} {e : Int} (r : RRIn w h l e) : ∃ x0 x1 x2 e1 T, w.heap[h]? = some (.cells #[.slice x0 x1 x2, .int .i64 e1] T (0, 0)) := by
  obtain ⟨a, n, c, r⟩ := r
  exact ⟨_, _, _, _, _, r.row⟩
theorem RIn.row {B : Nat} {w : World} {h : Nat} {l : List Int} {e : Int} (r : RIn B w h l e) : ∃ x0 x1 x2 e1 T, w.heap[h]? = some (.cells #[.slice x0 x1 x2, .int .i64 e1] T (0, 0)) := by
  obtain ⟨a, n, c, r⟩ := r
  exact ⟨_, _, _, _, _, r.row⟩
/-- Block h holds a reader. -/
def RdrRow (w : World) (h : Nat) : Prop := ∃ x0 x1 x2 e1 T, w.heap[h]? = some (.cells #[.slice x0 x1 x2, .int .i64 e1] T (0, 0))
/-- A reader's way to turn the world. -/
def RGo (h : Nat) (w w' : World) : Prop := w.grownBy w' (some h) ∧ RdrRow w h
theorem RRIn.off {w w' : World} {h k : Nat} {l : List Int} {e : Int} (r : RRIn w h l e) (g : RGo k w w') (hk : h ≠ k) : RRIn w' h l e := by
  obtain ⟨a, n, c, r⟩ := r
  obtain ⟨hg, x0, x1, x2, e1, T, row⟩ := g
  exact ⟨a, n, c, r.apart hg hk (typed_ne r.rd row)⟩
theorem RIn.off {B : Nat} {w w' : World} {h k : Nat} {l : List Int} {e : Int} (r : RIn B w h l e) (g : RGo k w w') (hk : h < k) : RIn B w' h l e :=
  r.grown g.1 (fun q hq => by injection hq with hq; omega)
theorem RIn.belowB {B C : Nat} {w w' : World} {h : Nat} {l : List Int} {e : Int} (r : RIn B w h l e) (hb : Below C w w') (hC : h < C) : RIn B w' h l e := by
  obtain ⟨a, n, c, r⟩ := r
  refine ⟨a, n, c, by rw [hb.block h hC]; exact r.row, ⟨r.rd.len, r.rd.cap, r.rd.max, fun i hi => ?_, r.rd.wf, r.rd.void⟩, r.lo, r.sp, r.hi⟩
  obtain ⟨b, o, e, hc⟩ := r.rd.cell i hi
  have h1 : b < h := r.lo _ e (by omega)
  exact ⟨b, o, e, by rw [hb.cell (p := ⟨b, o + i, none⟩) (by show b < C; omega)]; exact hc⟩
theorem RdAt.off {w w' : World} {a : Option Addr} {n c k : Nat} {l : List Int} (r : RdAt .u8 w a n c l) (g : RGo k w w') : RdAt .u8 w' a n c l := by
  obtain ⟨hg, x0, x1, x2, e1, T, row⟩ := g
  exact r.far hg (typed_ne r row)
theorem isBytes.off {w w' : World} {k : Nat} {l : List Int} {v : Value} (r : isBytes l v w) (g : RGo k w w') : isBytes l v w' := by
  obtain ⟨a, n, c, rfl, r⟩ := r
  exact ⟨a, n, c, rfl, r.off g⟩
theorem isBytes.below {w w' : World} {l : List Int} {v : Value} (r : isBytes l v w) (hb : Below w.heap.size w w') : isBytes l v w' := by
  obtain ⟨a, n, c, rfl, r⟩ := r
  exact ⟨a, n, c, rfl, r.below hb⟩
theorem below_rgo {w0 w w' : World} {k : Nat} (b : Below w0.heap.size w0 w) (g : RGo k w w') (hk : w0.heap.size ≤ k) : Below w0.heap.size w0 w' :=
  b.grown g.1 b.size (fun q hq => by injection hq with hq; omega)
theorem rdBytes_le (most : Int) (l : List Int) : (rdBytes most l).l.length ≤ l.length := by
  have h := btw_len 0 0 most l
  rw [rdFrom_ok] at h
  unfold rdBytes
  split
  · exact h
  · split
    · exact h
    · exact Nat.le_trans (by rw [List.length_drop]; omega) h
theorem rdInts_le : ∀ (k : Nat) (l : List Int), (rdInts k l).l.length ≤ l.length
  | 0, l => Nat.le_refl _
  | k + 1, l => by
    have h1 := rdInt_le l
    have h2 := rdInts_le k (rdInt l).l
    rw [rdInts]
    split
    · exact h1
    · split
      · exact Nat.le_trans h2 h1
      · exact Nat.le_trans h2 h1
theorem rdList_le (most : Int) (l : List Int) : (rdList most l).l.length ≤ l.length := by
  have h := btw_len 0 0 most l
  rw [rdFrom_ok] at h
  unfold rdList
  split
  · exact h
  · exact Nat.le_trans (rdInts_le _ _) h
theorem rdFrom_le {α : Type} (e0 : Int) (z : α) {l : List Int} {T : Rd α} (h : T.l.length ≤ l.length) : (rdFrom e0 z l T).l.length ≤ l.length := by
  unfold rdFrom
  split
  · exact Nat.le_refl _
  · exact h
theorem ItemsAt.below' {w w' : World} {a : Option Addr} {n : Nat} {L : List ItemP} (h : ItemsAt w a n L) (hb : Below w.heap.size w w') : ItemsAt w' a n L := by
  refine ⟨h.len, fun i A hA => ?_⟩
  obtain ⟨b, o, e, ⟨a2, n2, c2, a3, n3, c3, e0, e1, e2, e3, e4, e5, r2, r3⟩, hwf⟩ := h.at_ i A hA
  have k : ∀ (j : Nat) (v : Value), w.cell? ⟨b, j, none⟩ = some v → w'.cell? ⟨b, j, none⟩ = some v := fun j v hv => by
    rw [← hv]; exact World.cell?_of_block (a := ⟨b, j, none⟩) (hb.block b (block_lt_of_cell hv))
  exact ⟨b, o, e, ⟨a2, n2, c2, a3, n3, c3, k _ _ e0, k _ _ e1, k _ _ e2, k _ _ e3, k _ _ e4, k _ _ e5, r2.below hb, r3.below hb⟩, hwf⟩
/-- Both readers have the same bytes left, and the same error. -/
structure RTwo (B : Nat) (w0 w : World) (h1 h2 : Nat) (l : List Int) (e : Int) : Prop where
  p : RIn B w h1 l e
  q : RRIn w h2 l e
  below : Below w0.heap.size w0 w
  lo : w0.heap.size ≤ h1
  lt : h1 < h2
section
variable {B : Nat} {w0 w w1 w2 : World} {h1 h2 : Nat} {l l1 : List Int} {e e1 : Int}
theorem RTwo.kept (t : RTwo B w0 w h1 h2 l e) (hb : Below w.heap.size w w1) : RTwo B w0 w1 h1 h2 l e :=
  ⟨t.p.below hb, t.q.below hb, Below.call t.below hb, t.lo, t.lt⟩
theorem RTwo.goP (t : RTwo B w0 w h1 h2 l e) (g : w.grownBy w1 (some h1)) : RGo h1 w w1 := ⟨g, t.p.row⟩
theorem RTwo.midQ (t : RTwo B w0 w h1 h2 l e) (g : w.grownBy w1 (some h1)) : RRIn w1 h2 l e := t.q.off (t.goP g) (by have := t.lt; omega)
theorem RTwo.next (t : RTwo B w0 w h1 h2 l e) (g : w.grownBy w1 (some h1)) (p : RIn B w1 h1 l1 e1) (g2 : w1.grownBy w2 (some h2)) (q : RRIn w2 h2 l1 e1) : RTwo B w0 w2 h1 h2 l1 e1 :=
  ⟨p.off ⟨g2, (t.midQ g).row⟩ t.lt, q, below_rgo (below_rgo t.below (t.goP g) t.lo) ⟨g2, (t.midQ g).row⟩ (by have := t.lo; have := t.lt; omega), t.lo, t.lt⟩
end
theorem rdInt_varF {x : Int} (h1 : -9223372036854775808 ≤ x) (h2 : x ≤ 9223372036854775807) (more : List Int) : rdInt (varF 9 (zigI x) ++ more) = ⟨0, x, more⟩ := by
  have hz := zigI_bd x h1 h2
  obtain ⟨r1, r2, r3⟩ := readvar_var (zigI x) hz.1 hz.2 more _ rfl
  rw [rdInt_ok r3, r1, r2, zag_zig, Int.toNat_natCast, List.drop_left]
theorem rdBetween_varF {n : Nat} {most : Int} (hm : (n : Int) ≤ most) (hn : n ≤ 1000000) (more : List Int) : rdBetween 0 most (varF 9 (zigI n) ++ more) = ⟨0, n, more⟩ := by
  unfold rdBetween
  rw [rdInt_varF (by omega) (by omega), if_neg (by simp), if_neg (by show ¬ ((n : Int) < 0 ∨ most < n); omega)]
theorem rdBytes_back {bs : List Int} {most : Int} (hm : (bs.length : Int) ≤ most) (hn : bs.length ≤ 1000000) (more : List Int) : rdBytes most (varF 9 (zigI bs.length) ++ bs ++ more) = ⟨0, bs, more⟩ := by
  unfold rdBytes
  rw [List.append_assoc, rdBetween_varF hm hn, if_neg (by simp), if_neg (by show ¬ (((bs ++ more).length : Nat) : Int) < bs.length; rw [List.length_append]; omega)]
  show (⟨0, (bs ++ more).take (bs.length : Int).toNat, (bs ++ more).drop (bs.length : Int).toNat⟩ : Rd (List Int)) = _
  rw [Int.toNat_natCast, List.take_left, List.drop_left]
theorem rdInts_back : ∀ (ls : List Int) (_ : ∀ y ∈ ls, (Lit.int .i64 y).wf = true) (more : List Int), rdInts ls.length (listF ls ++ more) = ⟨0, ls, more⟩
  | [], _, more => rfl
  | x :: r, h, more => by
    have hx := wf_i64_bd (h x (by simp))
    have ih := rdInts_back r (fun y hy => h y (by simp [hy])) more
    rw [List.length_cons, rdInts, listF, List.append_assoc, rdInt_varF hx.1 hx.2, ih]
    rfl
theorem rdList_back {ls : List Int} {most : Int} (hw : ∀ y ∈ ls, (Lit.int .i64 y).wf = true) (hm : (ls.length : Int) ≤ most) (hn : ls.length ≤ 1000000) (more : List Int) : rdList most (varF 9 (zigI ls.length) ++ listF ls ++ more) = ⟨0, ls, more⟩ := by
  unfold rdList
  rw [List.append_assoc, rdBetween_varF hm hn, if_neg (by simp)]
  show rdInts (ls.length : Int).toNat (listF ls ++ more) = _
  rw [Int.toNat_natCast, rdInts_back ls hw]
theorem itemsF_drop {L : List ItemP} {k : Nat} {A : ItemP} (h : L[k]? = some A) : itemsF (L.drop k) = itemF A ++ itemsF (L.drop (k + 1)) := by
  obtain ⟨hk, he⟩ := List.getElem?_eq_some_iff.1 h
  rw [List.drop_eq_getElem_cons hk, he, itemsF]
theorem itemsF_drop_len {L : List ItemP} (k : Nat) : (itemsF (L.drop k)).length ≤ (itemsF L).length := by
  have h : itemsF L = itemsF (L.take k) ++ itemsF (L.drop k) := by
    have key : ∀ (a b : List ItemP), itemsF (a ++ b) = itemsF a ++ itemsF b := by
      intro a b
      induction a with
      | nil => rfl
      | cons x r ih => rw [List.cons_append, itemsF, itemsF, ih, List.append_assoc]
    rw [← key, List.take_append_drop]
  rw [h, List.length_append]
  omega
end Go.Proofs.Ytnlhpfcepbmbfaa
