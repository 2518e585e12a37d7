/- The walk of almanaclaw17.ProcsPlays. -/
import Derived.Test.YtlcmnaponpjhnaaProcsAll
import Derived.Deep.DeepCutAuto
import Derived.Outline
namespace Go.Proofs.Ytlcmnaponpjhnaa
open Go.RowKit
set_option linter.unusedSimpArgs false in
set_option linter.unusedVariables false in
set_option maxRecDepth 100000 in
set_option maxHeartbeats 4000000 in
theorem plays_bad (n : Int) (af : Option Addr) (nf cf : Nat) (lf : List Int) (bo : Bool) (aa : Option Addr) (na ca : Nat) (la : List Int) (stop : Int) (w : World) (hf : RdAt .i64 w af nf cf lf) (h1 : na ≤ 400) (h2 : nf ≤ 100) (hn : n < 1 ∨ 64 < n) :
    Calls Try.prog 4 #[.int .i64 n, .slice af nf cf, .bool bo, .slice aa na ca, .int .i64 stop] w fun e w' => e = .returned (.bool true) ∧ Below w.heap.size w w' := by
  have hd1 : decide ((400 : Int) < na) = false := decide_eq_false (by omega)
  have hd2 : decide ((100 : Int) < nf) = false := decide_eq_false (by omega)
  cases bo
  all_goals
    go_enter Try.func4, Try.ntmps4
    go_wp2_with (first | (go_at_call 5; refine (known17 _).mono ?_; rintro e w1 ⟨rfl, hbk⟩) | (go_at_call 6; refine (newset_no _ _ hn).mono ?_; rintro e w' ⟨rfl, rfl⟩) | (go_at_call 12; refine (rnew_no _ _ hn).mono ?_; rintro e w' ⟨rfl, rfl⟩) | (go_at_call 13; refine (of_bad _ _ _ _ _ hn).mono ?_; rintro e w' ⟨rfl, rfl⟩) | (go_at_call 14; refine (rof_bad _ _ _ _ _ hn).mono ?_; rintro e w' ⟨rfl, rfl⟩))
    go_ret
    exact ⟨rfl, ((Below.refl w.heap.size w).alloc (Nat.le_refl _) _).trans (hbk.mono (by simp))⟩
set_option linter.unusedSimpArgs false in
set_option linter.unusedVariables false in
set_option maxRecDepth 100000 in
set_option maxHeartbeats 4000000 in
theorem plays_in (N : Nat) (af : Option Addr) (nf cf : Nat) (lf : List Int) (bo : Bool) (aa : Option Addr) (na ca : Nat) (la : List Int) (stop : Int) (w0 : World) (hf : RdAt .i64 w0 af nf cf lf) (ha : RdAt .i64 w0 aa na ca la) (h1 : na ≤ 400) (h2 : nf ≤ 100) (hN1 : 1 ≤ N) (hN : N ≤ 64) (hst1 : -9223372036854775808 ≤ stop) (hst2 : stop ≤ 9223372036854775807) :
    Calls Try.prog 4 #[.int .i64 N, .slice af nf cf, .bool bo, .slice aa na ca, .int .i64 stop] w0 fun e w' => e = .returned (.bool true) ∧ Below w0.heap.size w0 w' := by
  have hd1 : decide ((400 : Int) < na) = false := decide_eq_false (by omega)
  have hd2 : decide ((100 : Int) < nf) = false := decide_eq_false (by omega)
  have HF := Lib.hid hf
  have HA := Lib.hid ha
  have HAB : Hid (∀ x, aa = some x → 0 < na → x.block < w0.heap.size) := fun x hx hn => by
    subst hx
    obtain ⟨b, o, e, hc⟩ := ha.cell 0 hn
    injection e with e
    rw [e]
    exact block_lt_of_cell hc
  clear hf ha
  go_enter Try.func4, Try.ntmps4
  go_upto_if 44 with (first | (go_at_call 5; refine (known17 _).mono ?_; rintro e w1 ⟨rfl, hbk⟩))
  have hpb : PB stop w0 w1 := ⟨by rw [hbk.block w0.heap.size (by simp)]; exact heap_alloc_new _ _, ((Below.refl w0.heap.size w0).alloc (Nat.le_refl _) _).trans (hbk.mono (by simp))⟩
  have hsz1 : w0.heap.size < w1.heap.size := by have := hbk.size; simp at this; omega
  have HPB := Lib.hid hpb
  clear hpb hbk
  refine (newset_yes _ _ (by omega) (by omega)).mono ?_
  rintro e w2 ⟨rfl, hs2, hb2⟩
  have HS2 := Lib.hid hs2
  have HPB2 := Lib.hid (HPB.out.below hb2)
  have hsz2 : w1.heap.size < w2.heap.size := hs2.lt
  clear hs2 HPB hb2
  go_upto_if 44 with (first | fail)
  refine (rnew_yes _ _ (by omega) (by omega)).mono ?_
  rintro e w3 ⟨g3, h3, rfl, hg3, hh3, hs3, hb3⟩
  have HS3 := Lib.hid hs3
  have HS2b := Lib.hid (HS2.out.below hb3)
  have HPB3 := Lib.hid (HPB2.out.below hb3)
  have hsz3 : w2.heap.size ≤ w3.heap.size := hb3.size
  clear hs3 hb3 HS2 HPB2
  go_upto_if 44 with (first | fail)
  go_cut [11, 12, 13, 14] (fun xs xe xr xf wc => PPStart stop w0 N xs xe xr xf wc)
  case first =>
    cases bo
    · go_wp2_with fail
      go_meet
      case rel => exact .inr ⟨0#64, _, _, _, rfl, rfl, rfl, rfl, HS2b.out, HS3.out, lowB_zero _, HPB3.out.1, HPB3.out.2, by omega, by omega, by omega, by omega, by omega⟩
    · obtain ⟨R, hR⟩ : ∃ R, ofL N 0#64 lf = R := ⟨_, rfl⟩
      have HR := Lib.hid hR
      clear hR
      go_wp2_with fail
      refine (of_any _ _ _ _ lf _ (HF.out.below HPB3.out.2) hN1 hN R HR.out).mono ?_
      rintro e w4 ⟨hb4, hee⟩
      have HPB4 := Lib.hid (HPB3.out.below hb4)
      have hsz4 := hb4.size
      clear hb4
      rcases hee with ⟨hRn, rfl⟩ | ⟨v, g4, hRv, rfl, hg4, hs4⟩
      · have HRN := Lib.hid hRn
        clear hRn
        go_wp2_with fail
        refine (rof_any _ _ _ _ lf _ (HF.out.below HPB4.out.2) hN1 hN R HR.out).mono ?_
        rintro e w5 ⟨hb5, hee⟩
        have HPB5 := Lib.hid (HPB4.out.below hb5)
        clear hb5
        rcases hee with ⟨hRn, rfl⟩ | ⟨v, g5, h5, hRv, _, _, _, _⟩
        · clear hRn
          go_wp2_with fail
          go_meet
          case rel => exact .inl ⟨rfl, rfl, rfl, rfl, HPB5.out.2⟩
        · rw [HRN.out] at hRv
          cases hRv
      · have HRV := Lib.hid hRv
        have HS4 := Lib.hid hs4
        have hlt4 := hs4.lt
        clear hRv hs4
        go_wp2_with fail
        refine (rof_any _ _ _ _ lf _ (HF.out.below HPB4.out.2) hN1 hN R HR.out).mono ?_
        rintro e w5 ⟨hb5, hee⟩
        have HPB5 := Lib.hid (HPB4.out.below hb5)
        have HS5 := Lib.hid (HS4.out.below hb5)
        clear hb5 HS4
        rcases hee with ⟨hRn, rfl⟩ | ⟨v', g5, h5, hRv, rfl, hg5, hh5, hr5⟩
        · rw [HRV.out] at hRn
          cases hRn
        · rw [HRV.out] at hRv
          injection hRv with hRv
          subst hRv
          have HR5 := Lib.hid hr5
          clear hr5
          go_wp2_with fail
          go_meet
          case rel => exact .inr ⟨v, _, _, _, rfl, rfl, rfl, rfl, HS5.out, HR5.out, ofL_low (lowB_zero N) (by rw [HR.out]; exact HRV.out), HPB5.out.1, HPB5.out.2, by omega, by omega, by omega, by omega, by omega⟩
  case rest =>
    clear HS2b HS3 HPB3
    rcases hcut with ⟨rfl, rfl, rfl, rfl, hbb⟩ | ⟨v, g, g2, h, rfl, rfl, rfl, rfl, hpp⟩
    · go_wp2_with fail
      go_ret
      exact ⟨rfl, hbb⟩
    · have HPP := Lib.hid hpp
      clear hpp
      go_wp2_with fail
      go_loopw [15] (fun i wr => ∃ (k : Nat) (v : BitVec 64), k ≤ na ∧ i = .int .i64 k ∧ PP stop w0 wr g g2 h N v) (fun i _ => na - (intOf i).toNat)
      case atStart => exact ⟨0, v, by omega, rfl, HPP.out⟩
      case round =>
        clear HPP v
        obtain ⟨k, v, hk, rfl, hpp⟩ := hrel
        have HPP := Lib.hid hpp
        clear hpp
        by_cases hk1 : k < na
        · obtain ⟨b, ad, rfl, hcell⟩ := (HA.out.below HPP.out.bel).cell k hk1
          have hbl : b < w0.heap.size := HAB.out _ rfl (by omega)
          obtain ⟨p, hpe⟩ : ∃ p, nth la k = p := ⟨_, rfl⟩
          rw [hpe] at hcell
          have HPE := Lib.hid hpe
          clear hpe
          go_upto_if 79 with (first | fail)
          go_cut [15] (fun i wc => i = .int .i64 k ∧ ∃ v', PP stop w0 wc g g2 h N v')
          case first =>
            by_cases hpm : p = -1
            · have hpb : (p == -1) = true := by simp [hpm]
              clear hpm
              go_wp2_with fail
              refine (take_all _ _ _ _ HPP.out.s hN).mono ?_
              rintro e w4 ⟨rfl, hs4, hg4⟩
              have HS4 := Lib.hid hs4
              have HG4 := Lib.hid hg4
              have HR4 := Lib.hid (HPP.out.r.grown hg4 (Ne.symm HPP.out.lo.2.2.2.1) (Ne.symm HPP.out.lo.2.2.2.2))
              clear hs4 hg4 hcell
              go_wp2_with fail
              refine (rtake_all _ _ _ _ _ HR4.out hN).mono ?_
              rintro e w5 ⟨rfl, hr5, hg5⟩
              have HPP5 := Lib.hid (HPP.out.turn HS4.out HG4.out hr5 hg5 (tkV_low HPP.out.low))
              clear hr5 hg5
              go_wp2_with fail
              go_meet
              case rel => exact ⟨rfl, _, HPP5.out⟩
            · have hpb : (p == -1) = false := by simp [hpm]
              clear hpm
              have hlo := HPP.out.lo
              have hbg : b = g → False := fun e => by omega
              have hrdD : RdAt .i64 wr.drew (some ⟨b, ad, none⟩) na ca la := HA.out.below HPP.out.bel.drew
              have hsD : SetAt wr.drew g N v := HPP.out.s
              have hrD : RSetAt wr.drew g2 h N v := ⟨HPP.out.r.row, HPP.out.r.own, HPP.out.r.ne⟩
              have hpbD : PB stop w0 wr.drew := ⟨HPP.out.st, HPP.out.bel.drew⟩
              go_wp2_with fail
              refine' reg_order [eqV _, eqV _, eqV _, eqV _, eqV _, (fun x w => x = .int .i64 (frE v N p) ∧ SetAt w g N (frV v N p)), eqV _, eqV _, eqV _, eqV _, eqV _, (fun x w => x = .int .i64 (frE v N p) ∧ RSetAt w g2 h N (frV v N p)), eqV _] [(5, fun w w' => World.grownBy w w' (some g)), (11, fun w w' => World.grownBy w w' (some h))] [(4, fun w => RdAt .i64 w (some ⟨b, ad, none⟩) na ca la), (10, fun w => RdAt .i64 w (some ⟨b, ad, none⟩) na ca la), (5, fun w => SetAt w g N v), (11, fun w => RSetAt w g2 h N v), (13, fun w => PB stop w0 w)] [98, 99, 100, 101, 102, 103, 104, 105, 106, 107, 108, 109, 110] [[], [], [], [1, 2], [3], [0, 4], [], [], [], [7, 8], [9], [6, 10], [5, 11]] [0, 1, 2, 3, 4, 5, 6, 7, 8, 9, 10, 11, 12] 13 (by kernel_rfl) ⟨eqV_stays _, eqV_stays _, eqV_stays _, eqV_stays _, eqV_stays _, fun _ _ _ p b => ⟨p.1, p.2.below b⟩, eqV_stays _, eqV_stays _, eqV_stays _, eqV_stays _, eqV_stays _, fun _ _ _ p b => ⟨p.1, p.2.below b⟩, eqV_stays _, trivial⟩ ⟨⟨.inl (eqV_stays _), .inl (eqV_stays _), .inl (eqV_stays _), .inl (eqV_stays _), .inl (eqV_stays _), .inr (.inr rfl), .inl (eqV_stays _), .inl (eqV_stays _), .inl (eqV_stays _), .inl (eqV_stays _), .inl (eqV_stays _), .inr (.inl (by kernel_rfl)), .inl (eqV_stays _), trivial⟩, ⟨.inl (eqV_stays _), .inl (eqV_stays _), .inl (eqV_stays _), .inl (eqV_stays _), .inl (eqV_stays _), .inl (fun _ _ _ q k => ⟨q.1, q.2.grown k hlo.2.2.2.2⟩), .inl (eqV_stays _), .inl (eqV_stays _), .inl (eqV_stays _), .inl (eqV_stays _), .inl (eqV_stays _), .inr (.inr rfl), .inl (eqV_stays _), trivial⟩, trivial⟩ ⟨fun _ _ p b => RdAt.below p b, fun _ _ p b => RdAt.below p b, fun _ _ p b => SetAt.below p b, fun _ _ p b => RSetAt.below p b, fun _ _ p b => PB.below p b, trivial⟩ ⟨⟨.inr (.inl (by kernel_rfl)), .inl (fun _ _ q k => RdAt.grown q k (fun x hx e => hbg (by injection hx with hx; injection e with e; rw [← hx] at e; exact e))), .inr (.inr rfl), .inl (fun _ _ q k => RSetAt.grown q k (Ne.symm hlo.2.2.2.1) (Ne.symm hlo.2.2.2.2)), .inl (fun _ _ q k => PB.grown q k hlo.1), trivial⟩, ⟨.inr (.inl (by kernel_rfl)), .inr (.inl (by kernel_rfl)), .inr (.inl (by kernel_rfl)), .inr (.inr rfl), .inl (fun _ _ q k => PB.grown q k hlo.2.2.1), trivial⟩, trivial⟩ ⟨hrdD, hrdD, hsD, hrD, hpbD, trivial⟩ 174 rfl (by kernel_rfl) (by kernel_rfl) rfl rfl 13 rfl ?q1obl ?q1fin
              case q1obl =>
                refine And.intro ?q1o0 (And.intro ?q1o1 (And.intro ?q1o2 (And.intro ?q1o3 (And.intro ?q1o4 (And.intro ?q1o5 (And.intro ?q1o6 (And.intro ?q1o7 (And.intro ?q1o8 (And.intro ?q1o9 (And.intro ?q1o10 (And.intro ?q1o11 (And.intro ?q1o12 (True.intro)))))))))))))
                case q1o0 =>
                  intro w1 hI
                  refine turn2_on (by rfl) ?_
                  intro K hK
                  go_simp
                  refine hK _ _ ⟨rfl, Kept.refl _, ?_⟩
                  show _ = _
                  simp only [List.getD_cons_zero, List.getD_cons_succ, Array.getD_eq_getD_getElem?, List.getElem?_toArray, List.getElem?_cons_zero, List.getElem?_cons_succ, Option.getD_some]
                  rfl
                case q1o1 =>
                  intro w1 hI
                  refine turn2_on (by rfl) ?_
                  intro K hK
                  go_simp
                  refine hK _ _ ⟨rfl, Kept.refl _, ?_⟩
                  show _ = _
                  simp only [List.getD_cons_zero, List.getD_cons_succ, Array.getD_eq_getD_getElem?, List.getElem?_toArray, List.getElem?_cons_zero, List.getElem?_cons_succ, Option.getD_some]
                  rfl
                case q1o2 =>
                  intro w1 hI
                  refine turn2_on (by rfl) ?_
                  intro K hK
                  go_simp
                  refine hK _ _ ⟨rfl, Kept.refl _, ?_⟩
                  show _ = _
                  simp only [List.getD_cons_zero, List.getD_cons_succ, Array.getD_eq_getD_getElem?, List.getElem?_toArray, List.getElem?_cons_zero, List.getElem?_cons_succ, Option.getD_some]
                  rfl
                case q1o3 =>
                  intro w1 hI
                  intro v1 h1
                  change _ = _ at h1
                  subst v1
                  intro v2 h2
                  change _ = _ at h2
                  subst v2
                  refine turn2_on (by rfl) ?_
                  intro K hK
                  simp only [List.getD_cons_zero, List.getD_cons_succ, List.setIfInBounds_toArray, List.set_cons_zero, List.set_cons_succ]
                  go_simp
                  refine hK _ _ ⟨rfl, Kept.refl _, ?_⟩
                  show _ = _
                  simp only [List.getD_cons_zero, List.getD_cons_succ, Array.getD_eq_getD_getElem?, List.getElem?_toArray, List.getElem?_cons_zero, List.getElem?_cons_succ, Option.getD_some]
                  rfl
                case q1o4 =>
                  intro w1 hI
                  replace hI : (fun w => RdAt .i64 w (some ⟨b, ad, none⟩) na ca la) w1 := hI
                  intro v3 h3
                  change _ = _ at h3
                  subst v3
                  refine turn2_on (by rfl) ?_
                  intro K hK
                  simp only [List.getD_cons_zero, List.getD_cons_succ, List.setIfInBounds_toArray, List.set_cons_zero, List.set_cons_succ]
                  have hc := rd_cell hI hk1
                  rw [HPE.out] at hc
                  go_simp
                  refine hK _ _ ⟨rfl, Kept.refl _, ?_⟩
                  show _ = _
                  simp only [List.getD_cons_zero, List.getD_cons_succ, Array.getD_eq_getD_getElem?, List.getElem?_toArray, List.getElem?_cons_zero, List.getElem?_cons_succ, Option.getD_some]
                  rfl
                case q1o5 =>
                  intro w1 hI
                  replace hI : (fun w => SetAt w g N v) w1 := hI
                  intro v0 h0
                  change _ = _ at h0
                  subst v0
                  intro v4 h4
                  change _ = _ at h4
                  subst v4
                  refine turn2_on (by rfl) ?_
                  intro K hK
                  simp only [List.getD_cons_zero, List.getD_cons_succ, List.setIfInBounds_toArray, List.set_cons_zero, List.set_cons_succ]
                  go_simp
                  refine Calls.mono (free_all _ _ _ _ _ hI hN) ?_
                  rintro e w2 ⟨rfl, hs, hg⟩
                  refine hK _ _ ⟨rfl, hg, ?_⟩
                  show _ = _ ∧ SetAt _ _ _ _
                  simp only [List.getD_cons_zero, List.getD_cons_succ, Array.getD_eq_getD_getElem?, List.getElem?_toArray, List.getElem?_cons_zero, List.getElem?_cons_succ, Option.getD_some]
                  exact ⟨(by first | trivial | rfl), hs⟩
                case q1o6 =>
                  intro w1 hI
                  refine turn2_on (by rfl) ?_
                  intro K hK
                  go_simp
                  refine hK _ _ ⟨rfl, Kept.refl _, ?_⟩
                  show _ = _
                  simp only [List.getD_cons_zero, List.getD_cons_succ, Array.getD_eq_getD_getElem?, List.getElem?_toArray, List.getElem?_cons_zero, List.getElem?_cons_succ, Option.getD_some]
                  rfl
                case q1o7 =>
                  intro w1 hI
                  refine turn2_on (by rfl) ?_
                  intro K hK
                  go_simp
                  refine hK _ _ ⟨rfl, Kept.refl _, ?_⟩
                  show _ = _
                  simp only [List.getD_cons_zero, List.getD_cons_succ, Array.getD_eq_getD_getElem?, List.getElem?_toArray, List.getElem?_cons_zero, List.getElem?_cons_succ, Option.getD_some]
                  rfl
                case q1o8 =>
                  intro w1 hI
                  refine turn2_on (by rfl) ?_
                  intro K hK
                  go_simp
                  refine hK _ _ ⟨rfl, Kept.refl _, ?_⟩
                  show _ = _
                  simp only [List.getD_cons_zero, List.getD_cons_succ, Array.getD_eq_getD_getElem?, List.getElem?_toArray, List.getElem?_cons_zero, List.getElem?_cons_succ, Option.getD_some]
                  rfl
                case q1o9 =>
                  intro w1 hI
                  intro v7 h7
                  change _ = _ at h7
                  subst v7
                  intro v8 h8
                  change _ = _ at h8
                  subst v8
                  refine turn2_on (by rfl) ?_
                  intro K hK
                  simp only [List.getD_cons_zero, List.getD_cons_succ, List.setIfInBounds_toArray, List.set_cons_zero, List.set_cons_succ]
                  go_simp
                  refine hK _ _ ⟨rfl, Kept.refl _, ?_⟩
                  show _ = _
                  simp only [List.getD_cons_zero, List.getD_cons_succ, Array.getD_eq_getD_getElem?, List.getElem?_toArray, List.getElem?_cons_zero, List.getElem?_cons_succ, Option.getD_some]
                  rfl
                case q1o10 =>
                  intro w1 hI
                  replace hI : (fun w => RdAt .i64 w (some ⟨b, ad, none⟩) na ca la) w1 := hI
                  intro v9 h9
                  change _ = _ at h9
                  subst v9
                  refine turn2_on (by rfl) ?_
                  intro K hK
                  simp only [List.getD_cons_zero, List.getD_cons_succ, List.setIfInBounds_toArray, List.set_cons_zero, List.set_cons_succ]
                  have hc := rd_cell hI hk1
                  rw [HPE.out] at hc
                  go_simp
                  refine hK _ _ ⟨rfl, Kept.refl _, ?_⟩
                  show _ = _
                  simp only [List.getD_cons_zero, List.getD_cons_succ, Array.getD_eq_getD_getElem?, List.getElem?_toArray, List.getElem?_cons_zero, List.getElem?_cons_succ, Option.getD_some]
                  rfl
                case q1o11 =>
                  intro w1 hI
                  replace hI : (fun w => RSetAt w g2 h N v) w1 := hI
                  intro v6 h6
                  change _ = _ at h6
                  subst v6
                  intro v10 h10
                  change _ = _ at h10
                  subst v10
                  refine turn2_on (by rfl) ?_
                  intro K hK
                  simp only [List.getD_cons_zero, List.getD_cons_succ, List.setIfInBounds_toArray, List.set_cons_zero, List.set_cons_succ]
                  go_simp
                  refine Calls.mono (rfree_all _ _ _ _ _ _ hI hN) ?_
                  rintro e w2 ⟨rfl, hs, hg⟩
                  refine hK _ _ ⟨rfl, hg, ?_⟩
                  show _ = _ ∧ RSetAt _ _ _ _ _
                  simp only [List.getD_cons_zero, List.getD_cons_succ, Array.getD_eq_getD_getElem?, List.getElem?_toArray, List.getElem?_cons_zero, List.getElem?_cons_succ, Option.getD_some]
                  exact ⟨(by first | trivial | rfl), hs⟩
                case q1o12 =>
                  intro w1 hI
                  intro v5 h5
                  change _ ∧ _ at h5
                  obtain ⟨h5, hs5⟩ := h5
                  subst h5
                  intro v11 h11
                  change _ ∧ _ at h11
                  obtain ⟨h11, hs11⟩ := h11
                  subst h11
                  refine turn2_on (by rfl) ?_
                  intro K hK
                  simp only [List.getD_cons_zero, List.getD_cons_succ, List.setIfInBounds_toArray, List.set_cons_zero, List.set_cons_succ]
                  go_simp
                  refine hK _ _ ⟨rfl, Kept.refl _, ?_⟩
                  show _ = _
                  simp only [List.getD_cons_zero, List.getD_cons_succ, Array.getD_eq_getD_getElem?, List.getElem?_toArray, List.getElem?_cons_zero, List.getElem?_cons_succ, Option.getD_some]
                  rfl
              intro w1 hI
              replace hI : (fun w => PB stop w0 w) w1 := hI
              intro v0 h0
              change _ = _ at h0
              subst v0
              intro v1 h1
              change _ = _ at h1
              subst v1
              intro v2 h2
              change _ = _ at h2
              subst v2
              intro v3 h3
              change _ = _ at h3
              subst v3
              intro v4 h4
              change _ = _ at h4
              subst v4
              intro v5 h5
              change _ ∧ _ at h5
              obtain ⟨h5, hs5⟩ := h5
              subst h5
              intro v6 h6
              change _ = _ at h6
              subst v6
              intro v7 h7
              change _ = _ at h7
              subst v7
              intro v8 h8
              change _ = _ at h8
              subst v8
              intro v9 h9
              change _ = _ at h9
              subst v9
              intro v10 h10
              change _ = _ at h10
              subst v10
              intro v11 h11
              change _ ∧ _ at h11
              obtain ⟨h11, hs11⟩ := h11
              subst h11
              intro v12 h12
              change _ = _ at h12
              subst v12
              simp only [Given, List.getD_cons_zero, List.getD_cons_succ, List.setIfInBounds_toArray, List.set_cons_zero, List.set_cons_succ]
              have HPP5 : Hid (PP stop w0 w1 g g2 h N (frV v N p)) := ⟨hs5, hs11, frV_low HPP.out.low, hI.1, hI.2, hlo⟩
              clear hs5 hs11 hI hrdD hsD hrD hpbD
              go_wp2_with fail
              go_meet
              case rel => exact ⟨rfl, _, HPP5.out⟩
          case rest =>
            obtain ⟨rfl, v', hpp⟩ := hcut
            have hlow := hpp.low
            have hrdD : RdAt .i64 wc.drew (some ⟨b, ad, none⟩) na ca la := HA.out.below hpp.bel.drew
            have hsD : SetAt wc.drew g N v' := hpp.s
            have hrD : RSetAt wc.drew g2 h N v' := ⟨hpp.r.row, hpp.r.own, hpp.r.ne⟩
            have HPP5 : Hid (PP stop w0 wc.drew g g2 h N v') := ⟨hpp.s, hrD, hpp.low, hpp.st, hpp.bel.drew, hpp.lo⟩
            clear hpp HPP hcell v
            obtain ⟨v, hv⟩ : ∃ v, v = v' := ⟨_, rfl⟩
            subst hv
            go_wp2_with fail
            refine' reg_free (G := Kept) (pickF [eqV _, isInts (pidsK v N), eqV _, isInts (pidsK v N), eqV _, eqV _, eqV _, eqV _, eqV _, eqV _, eqV _, eqV _, eqV _, eqV _, eqV _, eqV _, eqV _, eqV _, eqV _, eqV _, eqV _, eqV _, eqV _, eqV _, eqV _, eqV _, eqV _, eqV _, eqV _, eqV _, eqV _, eqV _, isInts (pidsK v N), eqV _, eqV _, eqV _]) [111, 112, 113, 114, 115, 116, 117, 118, 119, 120, 121, 122, 123, 124, 125, 126, 127, 128, 129, 130, 131, 132, 133, 134, 135, 136, 137, 138, 139, 140, 141, 142, 143, 144, 145, 146] [[], [0], [], [2], [1, 3], [4], [5], [6], [6, 7], [6], [6, 9], [6, 8, 10], [6, 11], [12], [13], [13], [13], [13, 15, 16], [13, 17], [13, 14, 18], [13], [13], [13], [13, 21, 22], [13, 23], [13, 20, 24], [13, 19, 25], [13, 26], [27], [28], [28, 29], [28], [28, 31], [28, 32], [28, 30, 33], [28, 34]] [0, 1, 2, 3, 4, 5, 6, 7, 8, 9, 10, 11, 12, 13, 14, 15, 16, 17, 18, 19, 20, 21, 22, 23, 24, 25, 26, 27, 28, 29, 30, 31, 32, 33, 34, 35] (by kernel_rfl) Kept.refl Kept.trans (pick_stays ⟨eqV_stays _, isInts_stays _, eqV_stays _, isInts_stays _, eqV_stays _, eqV_stays _, eqV_stays _, eqV_stays _, eqV_stays _, eqV_stays _, eqV_stays _, eqV_stays _, eqV_stays _, eqV_stays _, eqV_stays _, eqV_stays _, eqV_stays _, eqV_stays _, eqV_stays _, eqV_stays _, eqV_stays _, eqV_stays _, eqV_stays _, eqV_stays _, eqV_stays _, eqV_stays _, eqV_stays _, eqV_stays _, eqV_stays _, eqV_stays _, eqV_stays _, eqV_stays _, isInts_stays _, eqV_stays _, eqV_stays _, eqV_stays _, trivial⟩) 174 rfl (by kernel_rfl) (by kernel_rfl) rfl rfl ?r2obl ?r2fin
            case r2obl =>
              refine And.intro ?r2o0 (And.intro ?r2o1 (And.intro ?r2o2 (And.intro ?r2o3 (And.intro ?r2o4 (And.intro ?r2o5 (And.intro ?r2o6 (And.intro ?r2o7 (And.intro ?r2o8 (And.intro ?r2o9 (And.intro ?r2o10 (And.intro ?r2o11 (And.intro ?r2o12 (And.intro ?r2o13 (And.intro ?r2o14 (And.intro ?r2o15 (And.intro ?r2o16 (And.intro ?r2o17 (And.intro ?r2o18 (And.intro ?r2o19 (And.intro ?r2o20 (And.intro ?r2o21 (And.intro ?r2o22 (And.intro ?r2o23 (And.intro ?r2o24 (And.intro ?r2o25 (And.intro ?r2o26 (And.intro ?r2o27 (And.intro ?r2o28 (And.intro ?r2o29 (And.intro ?r2o30 (And.intro ?r2o31 (And.intro ?r2o32 (And.intro ?r2o33 (And.intro ?r2o34 (And.intro ?r2o35 (True.intro))))))))))))))))))))))))))))))))))))
              case r2o0 =>
                intro w1 hG
                refine turn_on (by rfl) ?_
                intro K hK
                go_simp
                refine hK _ _ ⟨rfl, Kept.refl _, ?_⟩
                show _ = _
                simp only [List.getD_cons_zero, List.getD_cons_succ, Array.getD_eq_getD_getElem?, List.getElem?_toArray, List.getElem?_cons_zero, List.getElem?_cons_succ, Option.getD_some]
                rfl
              case r2o1 =>
                intro w1 hG
                intro v0 h0
                change _ = _ at h0
                subst h0
                refine turn_on (by rfl) ?_
                intro K hK
                simp only [List.getD_cons_zero, List.getD_cons_succ, List.setIfInBounds_toArray, List.set_cons_zero, List.set_cons_succ]
                go_simp
                refine Calls.mono (list_any _ _ _ _ (SetAt.below hsD hG) hN) ?_
                rintro e w2 ⟨vv, rfl, hov, hbx⟩
                refine hK _ _ ⟨rfl, hbx, ?_⟩
                show isInts _ _ _
                simp only [List.getD_cons_zero, List.getD_cons_succ, Array.getD_eq_getD_getElem?, List.getElem?_toArray, List.getElem?_cons_zero, List.getElem?_cons_succ, Option.getD_some]
                exact hov.isInts
              case r2o2 =>
                intro w1 hG
                refine turn_on (by rfl) ?_
                intro K hK
                go_simp
                refine hK _ _ ⟨rfl, Kept.refl _, ?_⟩
                show _ = _
                simp only [List.getD_cons_zero, List.getD_cons_succ, Array.getD_eq_getD_getElem?, List.getElem?_toArray, List.getElem?_cons_zero, List.getElem?_cons_succ, Option.getD_some]
                rfl
              case r2o3 =>
                intro w1 hG
                intro v2 h2
                change _ = _ at h2
                subst h2
                refine turn_on (by rfl) ?_
                intro K hK
                simp only [List.getD_cons_zero, List.getD_cons_succ, List.setIfInBounds_toArray, List.set_cons_zero, List.set_cons_succ]
                go_simp
                refine Calls.mono (rlist_any _ _ _ _ _ (RSetAt.below hrD hG) hN) ?_
                rintro e w2 ⟨vv, rfl, hov, hbx⟩
                refine hK _ _ ⟨rfl, hbx, ?_⟩
                show isInts _ _ _
                simp only [List.getD_cons_zero, List.getD_cons_succ, Array.getD_eq_getD_getElem?, List.getElem?_toArray, List.getElem?_cons_zero, List.getElem?_cons_succ, Option.getD_some]
                exact hov.isInts
              case r2o4 =>
                intro w1 hG
                intro v1 h1
                obtain ⟨a1, c1, rfl, h1⟩ := h1
                intro v3 h3
                obtain ⟨a3, c3, rfl, h3⟩ := h3
                refine turn_on (by rfl) ?_
                intro K hK
                simp only [List.getD_cons_zero, List.getD_cons_succ, List.setIfInBounds_toArray, List.set_cons_zero, List.set_cons_succ]
                go_simp
                refine Calls.mono (ints_same _ _ _ _ _ _ _ _ h1 h3) ?_
                rintro e w2 ⟨rfl, hbx⟩
                refine hK _ _ ⟨rfl, hbx, ?_⟩
                show _ = _
                simp only [List.getD_cons_zero, List.getD_cons_succ, Array.getD_eq_getD_getElem?, List.getElem?_toArray, List.getElem?_cons_zero, List.getElem?_cons_succ, Option.getD_some]
                rfl
              case r2o5 =>
                intro w1 hG
                intro v4 h4
                change _ = _ at h4
                subst h4
                refine turn_on (by rfl) ?_
                intro K hK
                simp only [List.getD_cons_zero, List.getD_cons_succ, List.setIfInBounds_toArray, List.set_cons_zero, List.set_cons_succ]
                go_simp
                refine hK _ _ ⟨rfl, Kept.refl _, ?_⟩
                show _ = _
                simp only [List.getD_cons_zero, List.getD_cons_succ, Array.getD_eq_getD_getElem?, List.getElem?_toArray, List.getElem?_cons_zero, List.getElem?_cons_succ, Option.getD_some]
                rfl
              case r2o6 =>
                intro w1 hG
                intro v5 h5
                change _ = _ at h5
                subst h5
                refine turn_on (by rfl) ?_
                intro K hK
                simp only [List.getD_cons_zero, List.getD_cons_succ, List.setIfInBounds_toArray, List.set_cons_zero, List.set_cons_succ]
                go_simp
                refine hK _ _ ⟨rfl, Kept.refl _, ?_⟩
                show _ = _
                simp only [List.getD_cons_zero, List.getD_cons_succ, Array.getD_eq_getD_getElem?, List.getElem?_toArray, List.getElem?_cons_zero, List.getElem?_cons_succ, Option.getD_some]
                rfl
              case r2o7 =>
                intro w1 hG
                intro v6 h6
                change _ = _ at h6
                subst h6
                refine turn_on (by rfl) ?_
                intro K hK
                simp only [List.getD_cons_zero, List.getD_cons_succ, List.setIfInBounds_toArray, List.set_cons_zero, List.set_cons_succ]
                go_simp
                refine hK _ _ ⟨rfl, Kept.refl _, ?_⟩
                show _ = _
                simp only [List.getD_cons_zero, List.getD_cons_succ, Array.getD_eq_getD_getElem?, List.getElem?_toArray, List.getElem?_cons_zero, List.getElem?_cons_succ, Option.getD_some]
                rfl
              case r2o8 =>
                intro w1 hG
                intro v6 h6
                change _ = _ at h6
                subst h6
                intro v7 h7
                change _ = _ at h7
                subst h7
                refine turn_on (by rfl) ?_
                intro K hK
                simp only [List.getD_cons_zero, List.getD_cons_succ, List.setIfInBounds_toArray, List.set_cons_zero, List.set_cons_succ]
                go_simp
                refine Calls.mono (bits_any _ _ _ _ (SetAt.below hsD hG)) ?_
                rintro e w2 ⟨rfl, rfl⟩
                refine hK _ _ ⟨rfl, Kept.refl _, ?_⟩
                show _ = _
                simp only [List.getD_cons_zero, List.getD_cons_succ, Array.getD_eq_getD_getElem?, List.getElem?_toArray, List.getElem?_cons_zero, List.getElem?_cons_succ, Option.getD_some]
                rfl
              case r2o9 =>
                intro w1 hG
                intro v6 h6
                change _ = _ at h6
                subst h6
                refine turn_on (by rfl) ?_
                intro K hK
                simp only [List.getD_cons_zero, List.getD_cons_succ, List.setIfInBounds_toArray, List.set_cons_zero, List.set_cons_succ]
                go_simp
                refine hK _ _ ⟨rfl, Kept.refl _, ?_⟩
                show _ = _
                simp only [List.getD_cons_zero, List.getD_cons_succ, Array.getD_eq_getD_getElem?, List.getElem?_toArray, List.getElem?_cons_zero, List.getElem?_cons_succ, Option.getD_some]
                rfl
              case r2o10 =>
                intro w1 hG
                intro v6 h6
                change _ = _ at h6
                subst h6
                intro v9 h9
                change _ = _ at h9
                subst h9
                refine turn_on (by rfl) ?_
                intro K hK
                simp only [List.getD_cons_zero, List.getD_cons_succ, List.setIfInBounds_toArray, List.set_cons_zero, List.set_cons_succ]
                go_simp
                refine Calls.mono (rbits_any _ _ _ _ _ (RSetAt.below hrD hG) hN hlow) ?_
                rintro e w2 ⟨rfl, rfl⟩
                refine hK _ _ ⟨rfl, Kept.refl _, ?_⟩
                show _ = _
                simp only [List.getD_cons_zero, List.getD_cons_succ, Array.getD_eq_getD_getElem?, List.getElem?_toArray, List.getElem?_cons_zero, List.getElem?_cons_succ, Option.getD_some]
                rfl
              case r2o11 =>
                intro w1 hG
                intro v6 h6
                change _ = _ at h6
                subst h6
                intro v8 h8
                change _ = _ at h8
                subst h8
                intro v10 h10
                change _ = _ at h10
                subst h10
                refine turn_on (by rfl) ?_
                intro K hK
                simp only [List.getD_cons_zero, List.getD_cons_succ, List.setIfInBounds_toArray, List.set_cons_zero, List.set_cons_succ]
                go_simp
                refine hK _ _ ⟨rfl, Kept.refl _, ?_⟩
                show _ = _
                simp only [List.getD_cons_zero, List.getD_cons_succ, Array.getD_eq_getD_getElem?, List.getElem?_toArray, List.getElem?_cons_zero, List.getElem?_cons_succ, Option.getD_some]
                rfl
              case r2o12 =>
                intro w1 hG
                intro v6 h6
                change _ = _ at h6
                subst h6
                intro v11 h11
                change _ = _ at h11
                subst h11
                refine turn_on (by rfl) ?_
                intro K hK
                simp only [List.getD_cons_zero, List.getD_cons_succ, List.setIfInBounds_toArray, List.set_cons_zero, List.set_cons_succ]
                go_simp
                refine hK _ _ ⟨rfl, Kept.refl _, ?_⟩
                show _ = _
                simp only [List.getD_cons_zero, List.getD_cons_succ, Array.getD_eq_getD_getElem?, List.getElem?_toArray, List.getElem?_cons_zero, List.getElem?_cons_succ, Option.getD_some]
                rfl
              case r2o13 =>
                intro w1 hG
                intro v12 h12
                change _ = _ at h12
                subst h12
                refine turn_on (by rfl) ?_
                intro K hK
                simp only [List.getD_cons_zero, List.getD_cons_succ, List.setIfInBounds_toArray, List.set_cons_zero, List.set_cons_succ]
                go_simp
                refine hK _ _ ⟨rfl, Kept.refl _, ?_⟩
                show _ = _
                simp only [List.getD_cons_zero, List.getD_cons_succ, Array.getD_eq_getD_getElem?, List.getElem?_toArray, List.getElem?_cons_zero, List.getElem?_cons_succ, Option.getD_some]
                rfl
              case r2o14 =>
                intro w1 hG
                intro v13 h13
                change _ = _ at h13
                subst h13
                refine turn_on (by rfl) ?_
                intro K hK
                simp only [List.getD_cons_zero, List.getD_cons_succ, List.setIfInBounds_toArray, List.set_cons_zero, List.set_cons_succ]
                go_simp
                refine hK _ _ ⟨rfl, Kept.refl _, ?_⟩
                show _ = _
                simp only [List.getD_cons_zero, List.getD_cons_succ, Array.getD_eq_getD_getElem?, List.getElem?_toArray, List.getElem?_cons_zero, List.getElem?_cons_succ, Option.getD_some]
                rfl
              case r2o15 =>
                intro w1 hG
                intro v13 h13
                change _ = _ at h13
                subst h13
                refine turn_on (by rfl) ?_
                intro K hK
                simp only [List.getD_cons_zero, List.getD_cons_succ, List.setIfInBounds_toArray, List.set_cons_zero, List.set_cons_succ]
                go_simp
                refine hK _ _ ⟨rfl, Kept.refl _, ?_⟩
                show _ = _
                simp only [List.getD_cons_zero, List.getD_cons_succ, Array.getD_eq_getD_getElem?, List.getElem?_toArray, List.getElem?_cons_zero, List.getElem?_cons_succ, Option.getD_some]
                rfl
              case r2o16 =>
                intro w1 hG
                intro v13 h13
                change _ = _ at h13
                subst h13
                refine turn_on (by rfl) ?_
                intro K hK
                simp only [List.getD_cons_zero, List.getD_cons_succ, List.setIfInBounds_toArray, List.set_cons_zero, List.set_cons_succ]
                go_simp
                refine hK _ _ ⟨rfl, Kept.refl _, ?_⟩
                show _ = _
                simp only [List.getD_cons_zero, List.getD_cons_succ, Array.getD_eq_getD_getElem?, List.getElem?_toArray, List.getElem?_cons_zero, List.getElem?_cons_succ, Option.getD_some]
                rfl
              case r2o17 =>
                intro w1 hG
                intro v13 h13
                change _ = _ at h13
                subst h13
                intro v15 h15
                change _ = _ at h15
                subst h15
                intro v16 h16
                change _ = _ at h16
                subst h16
                refine turn_on (by rfl) ?_
                intro K hK
                simp only [List.getD_cons_zero, List.getD_cons_succ, List.setIfInBounds_toArray, List.set_cons_zero, List.set_cons_succ]
                go_simp
                refine hK _ _ ⟨rfl, Kept.refl _, ?_⟩
                show _ = _
                simp only [List.getD_cons_zero, List.getD_cons_succ, Array.getD_eq_getD_getElem?, List.getElem?_toArray, List.getElem?_cons_zero, List.getElem?_cons_succ, Option.getD_some]
                rfl
              case r2o18 =>
                intro w1 hG
                intro v13 h13
                change _ = _ at h13
                subst h13
                intro v17 h17
                change _ = _ at h17
                subst h17
                refine turn_on (by rfl) ?_
                intro K hK
                simp only [List.getD_cons_zero, List.getD_cons_succ, List.setIfInBounds_toArray, List.set_cons_zero, List.set_cons_succ]
                have hc := rd_cell (RdAt.below hrdD hG) hk1
                rw [HPE.out] at hc
                go_simp
                refine hK _ _ ⟨rfl, Kept.refl _, ?_⟩
                show _ = _
                simp only [List.getD_cons_zero, List.getD_cons_succ, Array.getD_eq_getD_getElem?, List.getElem?_toArray, List.getElem?_cons_zero, List.getElem?_cons_succ, Option.getD_some]
                rfl
              case r2o19 =>
                intro w1 hG
                intro v13 h13
                change _ = _ at h13
                subst h13
                intro v14 h14
                change _ = _ at h14
                subst h14
                intro v18 h18
                change _ = _ at h18
                subst h18
                refine turn_on (by rfl) ?_
                intro K hK
                simp only [List.getD_cons_zero, List.getD_cons_succ, List.setIfInBounds_toArray, List.set_cons_zero, List.set_cons_succ]
                go_simp
                refine Calls.mono (has_any _ _ _ _ _ (SetAt.below hsD hG) (by omega)) ?_
                rintro e w2 ⟨rfl, rfl⟩
                refine hK _ _ ⟨rfl, Kept.refl _, ?_⟩
                show _ = _
                simp only [List.getD_cons_zero, List.getD_cons_succ, Array.getD_eq_getD_getElem?, List.getElem?_toArray, List.getElem?_cons_zero, List.getElem?_cons_succ, Option.getD_some]
                rfl
              case r2o20 =>
                intro w1 hG
                intro v13 h13
                change _ = _ at h13
                subst h13
                refine turn_on (by rfl) ?_
                intro K hK
                simp only [List.getD_cons_zero, List.getD_cons_succ, List.setIfInBounds_toArray, List.set_cons_zero, List.set_cons_succ]
                go_simp
                refine hK _ _ ⟨rfl, Kept.refl _, ?_⟩
                show _ = _
                simp only [List.getD_cons_zero, List.getD_cons_succ, Array.getD_eq_getD_getElem?, List.getElem?_toArray, List.getElem?_cons_zero, List.getElem?_cons_succ, Option.getD_some]
                rfl
              case r2o21 =>
                intro w1 hG
                intro v13 h13
                change _ = _ at h13
                subst h13
                refine turn_on (by rfl) ?_
                intro K hK
                simp only [List.getD_cons_zero, List.getD_cons_succ, List.setIfInBounds_toArray, List.set_cons_zero, List.set_cons_succ]
                go_simp
                refine hK _ _ ⟨rfl, Kept.refl _, ?_⟩
                show _ = _
                simp only [List.getD_cons_zero, List.getD_cons_succ, Array.getD_eq_getD_getElem?, List.getElem?_toArray, List.getElem?_cons_zero, List.getElem?_cons_succ, Option.getD_some]
                rfl
              case r2o22 =>
                intro w1 hG
                intro v13 h13
                change _ = _ at h13
                subst h13
                refine turn_on (by rfl) ?_
                intro K hK
                simp only [List.getD_cons_zero, List.getD_cons_succ, List.setIfInBounds_toArray, List.set_cons_zero, List.set_cons_succ]
                go_simp
                refine hK _ _ ⟨rfl, Kept.refl _, ?_⟩
                show _ = _
                simp only [List.getD_cons_zero, List.getD_cons_succ, Array.getD_eq_getD_getElem?, List.getElem?_toArray, List.getElem?_cons_zero, List.getElem?_cons_succ, Option.getD_some]
                rfl
              case r2o23 =>
                intro w1 hG
                intro v13 h13
                change _ = _ at h13
                subst h13
                intro v21 h21
                change _ = _ at h21
                subst h21
                intro v22 h22
                change _ = _ at h22
                subst h22
                refine turn_on (by rfl) ?_
                intro K hK
                simp only [List.getD_cons_zero, List.getD_cons_succ, List.setIfInBounds_toArray, List.set_cons_zero, List.set_cons_succ]
                go_simp
                refine hK _ _ ⟨rfl, Kept.refl _, ?_⟩
                show _ = _
                simp only [List.getD_cons_zero, List.getD_cons_succ, Array.getD_eq_getD_getElem?, List.getElem?_toArray, List.getElem?_cons_zero, List.getElem?_cons_succ, Option.getD_some]
                rfl
              case r2o24 =>
                intro w1 hG
                intro v13 h13
                change _ = _ at h13
                subst h13
                intro v23 h23
                change _ = _ at h23
                subst h23
                refine turn_on (by rfl) ?_
                intro K hK
                simp only [List.getD_cons_zero, List.getD_cons_succ, List.setIfInBounds_toArray, List.set_cons_zero, List.set_cons_succ]
                have hc := rd_cell (RdAt.below hrdD hG) hk1
                rw [HPE.out] at hc
                go_simp
                refine hK _ _ ⟨rfl, Kept.refl _, ?_⟩
                show _ = _
                simp only [List.getD_cons_zero, List.getD_cons_succ, Array.getD_eq_getD_getElem?, List.getElem?_toArray, List.getElem?_cons_zero, List.getElem?_cons_succ, Option.getD_some]
                rfl
              case r2o25 =>
                intro w1 hG
                intro v13 h13
                change _ = _ at h13
                subst h13
                intro v20 h20
                change _ = _ at h20
                subst h20
                intro v24 h24
                change _ = _ at h24
                subst h24
                refine turn_on (by rfl) ?_
                intro K hK
                simp only [List.getD_cons_zero, List.getD_cons_succ, List.setIfInBounds_toArray, List.set_cons_zero, List.set_cons_succ]
                go_simp
                refine Calls.mono (rhas_any _ _ _ _ _ _ (RSetAt.below hrD hG)) ?_
                rintro e w2 ⟨rfl, rfl⟩
                refine hK _ _ ⟨rfl, Kept.refl _, ?_⟩
                show _ = _
                simp only [List.getD_cons_zero, List.getD_cons_succ, Array.getD_eq_getD_getElem?, List.getElem?_toArray, List.getElem?_cons_zero, List.getElem?_cons_succ, Option.getD_some]
                rfl
              case r2o26 =>
                intro w1 hG
                intro v13 h13
                change _ = _ at h13
                subst h13
                intro v19 h19
                change _ = _ at h19
                subst h19
                intro v25 h25
                change _ = _ at h25
                subst h25
                refine turn_on (by rfl) ?_
                intro K hK
                simp only [List.getD_cons_zero, List.getD_cons_succ, List.setIfInBounds_toArray, List.set_cons_zero, List.set_cons_succ]
                go_simp
                refine hK _ _ ⟨rfl, Kept.refl _, ?_⟩
                show _ = _
                simp only [List.getD_cons_zero, List.getD_cons_succ, Array.getD_eq_getD_getElem?, List.getElem?_toArray, List.getElem?_cons_zero, List.getElem?_cons_succ, Option.getD_some]
                rfl
              case r2o27 =>
                intro w1 hG
                intro v13 h13
                change _ = _ at h13
                subst h13
                intro v26 h26
                change _ = _ at h26
                subst h26
                refine turn_on (by rfl) ?_
                intro K hK
                simp only [List.getD_cons_zero, List.getD_cons_succ, List.setIfInBounds_toArray, List.set_cons_zero, List.set_cons_succ]
                go_simp
                refine hK _ _ ⟨rfl, Kept.refl _, ?_⟩
                show _ = _
                simp only [List.getD_cons_zero, List.getD_cons_succ, Array.getD_eq_getD_getElem?, List.getElem?_toArray, List.getElem?_cons_zero, List.getElem?_cons_succ, Option.getD_some]
                rfl
              case r2o28 =>
                intro w1 hG
                intro v27 h27
                change _ = _ at h27
                subst h27
                refine turn_on (by rfl) ?_
                intro K hK
                simp only [List.getD_cons_zero, List.getD_cons_succ, List.setIfInBounds_toArray, List.set_cons_zero, List.set_cons_succ]
                go_simp
                refine hK _ _ ⟨rfl, Kept.refl _, ?_⟩
                show _ = _
                simp only [List.getD_cons_zero, List.getD_cons_succ, Array.getD_eq_getD_getElem?, List.getElem?_toArray, List.getElem?_cons_zero, List.getElem?_cons_succ, Option.getD_some]
                rfl
              case r2o29 =>
                intro w1 hG
                intro v28 h28
                change _ = _ at h28
                subst h28
                refine turn_on (by rfl) ?_
                intro K hK
                simp only [List.getD_cons_zero, List.getD_cons_succ, List.setIfInBounds_toArray, List.set_cons_zero, List.set_cons_succ]
                go_simp
                refine hK _ _ ⟨rfl, Kept.refl _, ?_⟩
                show _ = _
                simp only [List.getD_cons_zero, List.getD_cons_succ, Array.getD_eq_getD_getElem?, List.getElem?_toArray, List.getElem?_cons_zero, List.getElem?_cons_succ, Option.getD_some]
                rfl
              case r2o30 =>
                intro w1 hG
                intro v28 h28
                change _ = _ at h28
                subst h28
                intro v29 h29
                change _ = _ at h29
                subst h29
                refine turn_on (by rfl) ?_
                intro K hK
                simp only [List.getD_cons_zero, List.getD_cons_succ, List.setIfInBounds_toArray, List.set_cons_zero, List.set_cons_succ]
                go_simp
                refine Calls.mono (len_any _ _ _ _ (SetAt.below hsD hG) hN) ?_
                rintro e w2 ⟨rfl, hbx⟩
                refine hK _ _ ⟨rfl, hbx, ?_⟩
                show _ = _
                simp only [List.getD_cons_zero, List.getD_cons_succ, Array.getD_eq_getD_getElem?, List.getElem?_toArray, List.getElem?_cons_zero, List.getElem?_cons_succ, Option.getD_some]
                rfl
              case r2o31 =>
                intro w1 hG
                intro v28 h28
                change _ = _ at h28
                subst h28
                refine turn_on (by rfl) ?_
                intro K hK
                simp only [List.getD_cons_zero, List.getD_cons_succ, List.setIfInBounds_toArray, List.set_cons_zero, List.set_cons_succ]
                go_simp
                refine hK _ _ ⟨rfl, Kept.refl _, ?_⟩
                show _ = _
                simp only [List.getD_cons_zero, List.getD_cons_succ, Array.getD_eq_getD_getElem?, List.getElem?_toArray, List.getElem?_cons_zero, List.getElem?_cons_succ, Option.getD_some]
                rfl
              case r2o32 =>
                intro w1 hG
                intro v28 h28
                change _ = _ at h28
                subst h28
                intro v31 h31
                change _ = _ at h31
                subst h31
                refine turn_on (by rfl) ?_
                intro K hK
                simp only [List.getD_cons_zero, List.getD_cons_succ, List.setIfInBounds_toArray, List.set_cons_zero, List.set_cons_succ]
                go_simp
                refine Calls.mono (rlist_any _ _ _ _ _ (RSetAt.below hrD hG) hN) ?_
                rintro e w2 ⟨vv, rfl, hov, hbx⟩
                refine hK _ _ ⟨rfl, hbx, ?_⟩
                show isInts _ _ _
                simp only [List.getD_cons_zero, List.getD_cons_succ, Array.getD_eq_getD_getElem?, List.getElem?_toArray, List.getElem?_cons_zero, List.getElem?_cons_succ, Option.getD_some]
                exact hov.isInts
              case r2o33 =>
                intro w1 hG
                intro v28 h28
                change _ = _ at h28
                subst h28
                intro v32 h32
                obtain ⟨a32, c32, rfl, h32⟩ := h32
                refine turn_on (by rfl) ?_
                intro K hK
                simp only [List.getD_cons_zero, List.getD_cons_succ, List.setIfInBounds_toArray, List.set_cons_zero, List.set_cons_succ]
                go_simp
                refine hK _ _ ⟨rfl, Kept.refl _, ?_⟩
                show _ = _
                simp only [List.getD_cons_zero, List.getD_cons_succ, Array.getD_eq_getD_getElem?, List.getElem?_toArray, List.getElem?_cons_zero, List.getElem?_cons_succ, Option.getD_some]
                rfl
              case r2o34 =>
                intro w1 hG
                intro v28 h28
                change _ = _ at h28
                subst h28
                intro v30 h30
                change _ = _ at h30
                subst h30
                intro v33 h33
                change _ = _ at h33
                subst h33
                refine turn_on (by rfl) ?_
                intro K hK
                simp only [List.getD_cons_zero, List.getD_cons_succ, List.setIfInBounds_toArray, List.set_cons_zero, List.set_cons_succ]
                go_simp
                refine hK _ _ ⟨rfl, Kept.refl _, ?_⟩
                show _ = _
                simp only [List.getD_cons_zero, List.getD_cons_succ, Array.getD_eq_getD_getElem?, List.getElem?_toArray, List.getElem?_cons_zero, List.getElem?_cons_succ, Option.getD_some]
                rfl
              case r2o35 =>
                intro w1 hG
                intro v28 h28
                change _ = _ at h28
                subst h28
                intro v34 h34
                change _ = _ at h34
                subst h34
                refine turn_on (by rfl) ?_
                intro K hK
                simp only [List.getD_cons_zero, List.getD_cons_succ, List.setIfInBounds_toArray, List.set_cons_zero, List.set_cons_succ]
                go_simp
                refine hK _ _ ⟨rfl, Kept.refl _, ?_⟩
                show _ = _
                simp only [List.getD_cons_zero, List.getD_cons_succ, Array.getD_eq_getD_getElem?, List.getElem?_toArray, List.getElem?_cons_zero, List.getElem?_cons_succ, Option.getD_some]
                rfl
            intro w1 hG
            intro v0 h0
            change _ = _ at h0
            subst h0
            intro v1 h1
            obtain ⟨a1, c1, rfl, h1⟩ := h1
            intro v2 h2
            change _ = _ at h2
            subst h2
            intro v3 h3
            obtain ⟨a3, c3, rfl, h3⟩ := h3
            intro v4 h4
            change _ = _ at h4
            subst h4
            intro v5 h5
            change _ = _ at h5
            subst h5
            intro v6 h6
            change _ = _ at h6
            subst h6
            intro v7 h7
            change _ = _ at h7
            subst h7
            intro v8 h8
            change _ = _ at h8
            subst h8
            intro v9 h9
            change _ = _ at h9
            subst h9
            intro v10 h10
            change _ = _ at h10
            subst h10
            intro v11 h11
            change _ = _ at h11
            subst h11
            intro v12 h12
            change _ = _ at h12
            subst h12
            intro v13 h13
            change _ = _ at h13
            subst h13
            intro v14 h14
            change _ = _ at h14
            subst h14
            intro v15 h15
            change _ = _ at h15
            subst h15
            intro v16 h16
            change _ = _ at h16
            subst h16
            intro v17 h17
            change _ = _ at h17
            subst h17
            intro v18 h18
            change _ = _ at h18
            subst h18
            intro v19 h19
            change _ = _ at h19
            subst h19
            intro v20 h20
            change _ = _ at h20
            subst h20
            intro v21 h21
            change _ = _ at h21
            subst h21
            intro v22 h22
            change _ = _ at h22
            subst h22
            intro v23 h23
            change _ = _ at h23
            subst h23
            intro v24 h24
            change _ = _ at h24
            subst h24
            intro v25 h25
            change _ = _ at h25
            subst h25
            intro v26 h26
            change _ = _ at h26
            subst h26
            intro v27 h27
            change _ = _ at h27
            subst h27
            intro v28 h28
            change _ = _ at h28
            subst h28
            intro v29 h29
            change _ = _ at h29
            subst h29
            intro v30 h30
            change _ = _ at h30
            subst h30
            intro v31 h31
            change _ = _ at h31
            subst h31
            intro v32 h32
            obtain ⟨a32, c32, rfl, h32⟩ := h32
            intro v33 h33
            change _ = _ at h33
            subst h33
            intro v34 h34
            change _ = _ at h34
            subst h34
            intro v35 h35
            change _ = _ at h35
            subst h35
            simp only [Given, List.getD_cons_zero, List.getD_cons_succ, List.setIfInBounds_toArray, List.set_cons_zero, List.set_cons_succ]
            have HPP6 := Lib.hid (HPP5.out.below hG)
            clear hrdD hsD hrD HPP5
            go_wp2_with fail
            go_roundw
            case rel => exact ⟨k + 1, v, by omega, by go_num, HPP6.out⟩
            case measure => simp [intOf] <;> omega
        · go_wp2_with fail
          refine (rlist_any _ _ _ _ _ HPP.out.r hN).mono ?_
          rintro e w6 ⟨v6, rfl, ho6, hb6⟩
          obtain ⟨n6, hn6⟩ : ∃ n6, (pidsK v N).length = n6 := ⟨_, rfl⟩
          obtain ⟨a6, c6, rfl⟩ := ho6.shapeN n6 hn6
          have HPP6 := Lib.hid (HPP.out.below hb6)
          have HO6 := Lib.hid ho6
          have HN6 := Lib.hid hn6
          clear hb6 ho6 hn6
          go_wp2_with fail
          have hs64 : n6 ≤ 64 := by rw [← HN6.out]; exact Nat.le_trans (pidsK_le v N) hN
          have hlo := HPP6.out.lo
          have hl0 : w0.heap.size < w6.heap.size := (Array.getElem?_eq_some_iff.1 HPP6.out.st).1
          have hlg : g < w6.heap.size := HPP6.out.s.lt
          have hB3 : Below w6.heap.size w6 (((w6.alloc (.cells #[.slice a6 n6 c6] 22)).alloc (.cells #[.int .i64 0] 3)).alloc (.cells #[.bool true] 4)) := (((Below.refl _ _).alloc (Nat.le_refl _) _).alloc (by simp) _).alloc (by simp; omega) _
          have hseen : Seen (((w6.alloc (.cells #[.slice a6 n6 c6] 22)).alloc (.cells #[.int .i64 0] 3)).alloc (.cells #[.bool true] 4)) (w6.heap.size + 1 + 1) (w6.heap.size + 1) w6.heap.size w0.heap.size 0 stop a6 n6 c6 := by
            refine ⟨?_, ?_, ?_, ?_⟩
            · have := heap_alloc_new ((w6.alloc (.cells #[.slice a6 n6 c6] 22)).alloc (.cells #[.int .i64 0] 3)) (.cells #[.bool true] 4)
              simpa using this
            · rw [heap_alloc_old _ _ (by simp)]
              have := heap_alloc_new (w6.alloc (.cells #[.slice a6 n6 c6] 22)) (.cells #[.int .i64 0] 3)
              simpa using this
            · rw [heap_alloc_old _ _ (by simp; omega), heap_alloc_old _ _ (by simp)]
              exact heap_alloc_new _ _
            · rw [hB3.block _ hl0]; exact HPP6.out.st
          refine (each_play g N (w6.heap.size + 1 + 1) (w6.heap.size + 1) w6.heap.size w0.heap.size v stop a6 n6 c6 w6.heap.size _ (HPP6.out.s.below hB3) hN hseen (HO6.out.rd.below hB3) (by omega) (by omega) (by omega) (by omega) (by omega) (fun hn0 x hx => by
            subst hx
            obtain ⟨b9, o9, e9, hc9⟩ := HO6.out.rd.cell 0 hn0
            injection e9 with e9
            have := block_lt_of_cell hc9
            rw [e9]
            show b9 ≠ _ ∧ b9 ≠ _
            simp only at this
            omega) (by omega) (by omega) (by omega) (by omega)).mono ?_
          rintro e w7 ⟨rfl, hx7, hb7⟩
          have hB7 := HPP6.out.bel.trans ((hB3.trans hb7).mono (Nat.le_of_lt hl0))
          have c1 : w7.cell? ⟨w6.heap.size + 1 + 1, 0, none⟩ = some (.bool true) := by rw [cell_of_row w7 _ _ _ _ _ hx7.ok]; rfl
          have c2 : w7.cell? ⟨w6.heap.size + 1, 0, none⟩ = some (.int .i64 (cntE stop n6 : Nat)) := by rw [cell_of_row w7 _ _ _ _ _ hx7.cnt]; rfl
          have c3 : w7.cell? ⟨w6.heap.size, 0, none⟩ = some (.slice a6 n6 c6) := by rw [cell_of_row w7 _ _ _ _ _ hx7.want]; rfl
          have c4 : w7.cell? ⟨w0.heap.size, 0, none⟩ = some (.int .i64 stop) := by rw [cell_of_row w7 _ _ _ _ _ hx7.stp]; rfl
          have HB7 := Lib.hid hB7
          clear hx7 hb7 hseen hB3 hB7 hlg hl0 hlo
          by_cases hcA : (n6 : Int) ≤ stop
          · have hc : ((cntE stop n6 : Nat) : Int) = n6 := by unfold cntE; rw [if_pos hcA]
            rw [hc] at c2
            have q1 : decide ((n6 : Int) ≤ stop) = true := decide_eq_true hcA
            have q2 : decide (stop < 0) = false := decide_eq_false (by omega)
            clear hc
            go_wp2_with fail
            go_ret
            exact ⟨rfl, HB7.out⟩
          · have q1 : decide ((n6 : Int) ≤ stop) = false := decide_eq_false hcA
            by_cases hcB : stop < 0
            · have q2 : decide (stop < 0) = true := decide_eq_true hcB
              have hws : IntKind.i64.wrap (stop + 1) = stop + 1 := IntWalk.i64_in _ (by omega)
              by_cases hcC : n6 = 0
              · have hc : ((cntE stop n6 : Nat) : Int) = 0 := by unfold cntE; rw [if_neg hcA]; omega
                rw [hc] at c2
                subst hcC
                clear hc
                go_wp2_with fail
                go_ret
                exact ⟨rfl, HB7.out⟩
              · have hc : ((cntE stop n6 : Nat) : Int) = 1 := by unfold cntE; rw [if_neg hcA]; omega
                rw [hc] at c2
                have q3 : decide ((n6 : Int) < 1) = false := decide_eq_false (by omega)
                clear hc
                go_wp2_with fail
                go_ret
                exact ⟨rfl, HB7.out⟩
            · have q2 : decide (stop < 0) = false := decide_eq_false hcB
              have hws : IntKind.i64.wrap (stop + 1) = stop + 1 := IntWalk.i64_in _ (by omega)
              have q3 : decide ((n6 : Int) < stop + 1) = false := decide_eq_false (by omega)
              have hc : ((cntE stop n6 : Nat) : Int) = stop + 1 := by unfold cntE; rw [if_neg hcA]; omega
              rw [hc] at c2
              clear hc
              go_wp2_with fail
              go_ret
              exact ⟨rfl, HB7.out⟩

set_option linter.unusedSimpArgs false in
set_option linter.unusedVariables false in
set_option maxRecDepth 100000 in
set_option maxHeartbeats 4000000 in
theorem procsPlays_walk (n : Int) (af : Option Addr) (nf cf : Nat) (lf : List Int) (bo : Bool) (aa : Option Addr) (na ca : Nat) (la : List Int) (stop : Int) (w : World) (hwn : (Lit.int .i64 n).wf = true) (hf : RdAt .i64 w af nf cf lf) (ha : RdAt .i64 w aa na ca la) (hws : (Lit.int .i64 stop).wf = true) :
    Calls Try.prog 4 #[.int .i64 n, .slice af nf cf, .bool bo, .slice aa na ca, .int .i64 stop] w fun e w' => e = .returned (.bool true) ∧ Below w.heap.size w w' := by
  have h9 := wf_i64_bd hws
  by_cases h1 : na ≤ 400
  · by_cases h2 : nf ≤ 100
    · by_cases h3 : 1 ≤ n ∧ n ≤ 64
      · obtain ⟨N, rfl⟩ := Int.eq_ofNat_of_zero_le (show 0 ≤ n by omega)
        exact plays_in N af nf cf lf bo aa na ca la stop w hf ha h1 h2 (by omega) (by omega) h9.1 h9.2
      · exact plays_bad n af nf cf lf bo aa na ca la stop w hf h1 h2 (by omega)
    · have hd1 : decide ((400 : Int) < na) = false := decide_eq_false (by omega)
      have hd2 : decide ((100 : Int) < nf) = true := decide_eq_true (by omega)
      go_enter Try.func4, Try.ntmps4
      go_wp2_with (go_at_call 5; refine (known17 _).mono ?_; rintro e w1 ⟨rfl, hbk⟩)
      go_ret
      exact ⟨rfl, ((Below.refl w.heap.size w).alloc (Nat.le_refl _) _).trans (hbk.mono (by simp))⟩
  · have hd1 : decide ((400 : Int) < na) = true := decide_eq_true (by omega)
    go_enter Try.func4, Try.ntmps4
    go_wp2_with (go_at_call 5; refine (known17 _).mono ?_; rintro e w1 ⟨rfl, hbk⟩)
    go_ret
    exact ⟨rfl, ((Below.refl w.heap.size w).alloc (Nat.le_refl _) _).trans (hbk.mono (by simp))⟩
end Go.Proofs.Ytlcmnaponpjhnaa
