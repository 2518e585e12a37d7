/- The document's regions: Clean. -/
import Derived.Test.YtoampbdipmecmaaRgRight
namespace Go.Proofs.Ytoampbdipmecmaa
open Go.RowKit
theorem filter_snoc {L : List Rg} {k : Nat} {r : Rg} (h : L[k]? = some r) : (L.take (k + 1)).filter goodR = (L.take k).filter goodR ++ (if goodR r = true then [r] else []) := by
  rw [List.take_add_one, h, List.filter_append]
  congr 1
  show List.filter _ [r] = _
  rw [List.filter_cons, List.filter_nil]
theorem filter_le (L : List Rg) (k : Nat) : ((L.take k).filter goodR).length ≤ L.length := by
  refine Nat.le_trans (List.length_filter_le _ _) ?_
  rw [List.length_take]
  omega
theorem lastP_snoc {L : List Rg} {k : Nat} {r : Rg} (x : Int) (h : L[k]? = some r) : lastP (L.take (k + 1)) x = if r.lo ≤ x ∧ x < r.hi then r.p else lastP (L.take k) x := by
  rw [List.take_add_one, h]
  unfold lastP
  rw [List.foldl_append]
  show (if r.has x = true then r.p else _) = _
  by_cases h : r.lo ≤ x ∧ x < r.hi
  · rw [if_pos h, if_pos (Rg.has_iff.2 h)]
  · rw [if_neg h, if_neg (fun e => h (Rg.has_iff.1 e))]
theorem good_all {L : List Rg} : ∀ r ∈ L.filter goodR, r.Sm := fun r hr => by
  have h := goodR_iff.1 (List.mem_filter.1 hr).2
  exact ⟨by omega, by omega, by omega⟩
theorem lastP_wf {G : List Rg} (x : Int) (h : ∀ r ∈ G, r.Sm) : (Lit.int .i64 (lastP G x)).wf = true := by
  have : ∀ (G : List Rg) (z : Int), (∀ r ∈ G, r.Sm) → -1 ≤ z ∧ z ≤ 3 → -1 ≤ G.foldl (fun h r => if r.has x = true then r.p else h) z ∧ G.foldl (fun h r => if r.has x = true then r.p else h) z ≤ 3 := by
    intro G
    induction G with
    | nil => intro z _ hz; exact hz
    | cons r G ih =>
      intro z h hz
      refine ih _ (fun s hs => h s (List.mem_cons_of_mem _ hs)) ?_
      show -1 ≤ (if r.has x = true then r.p else z) ∧ (if r.has x = true then r.p else z) ≤ 3
      split
      · have := (h r (List.mem_cons_self ..)).p; omega
      · exact hz
  have h1 := this G (-1) h (by omega)
  exact Go.WalkArith.wf_i64 (by unfold lastP; omega)
set_option linter.unusedSimpArgs false in
set_option linter.unusedVariables false in
set_option maxRecDepth 100000 in
set_option maxHeartbeats 4000000 in
theorem refclean_any (a : Option Addr) (n c : Nat) (L : List Rg) (w : World) (h : RdS Rg.cells 3 w a n c L) (hn : n ≤ 400) :
    Calls Try.prog 17 #[.slice a n c] w (GivesRgs (refClean L) w) := by
  have H := Lib.hid h
  clear h
  go_enter Try.func17, Try.ntmps17
  go_wp2
  go_loopw [3, 4] (fun v i wr => ∃ k : Nat, k ≤ n ∧ i = .int .i64 k ∧ Hid (OwnsS Rg.cells 3 29 wr w.heap.size v ((L.take k).filter goodR) ∧ Below w.heap.size w wr)) (fun _ i _ => n - (intOf i).toNat)
  case atStart => exact ⟨0, by omega, rfl, OwnsS.nil _ _ _ _ _, Below.refl _ _⟩
  case round =>
    obtain ⟨k, hk, rfl, hh⟩ := hrel
    obtain ⟨h1, h2⟩ := hh.out
    have O := Lib.hid h1
    have B := Lib.hid h2
    clear hh h1 h2
    by_cases hkn : k < n
    · have hl := H.out.len
      obtain ⟨r, hr⟩ : ∃ r, L[k]? = some r := ⟨L[k], List.getElem?_eq_getElem (by omega)⟩
      obtain ⟨b, o, ha, c0, c1, c2⟩ := (H.out.below B.out).three k r hr
      subst ha
      have HE := Lib.hid (filter_snoc hr)
      have HLEN : Hid (((L.take k).filter goodR).length ≤ 1000) := Nat.le_trans (filter_le L k) (by omega)
      clear hr hl
      obtain ⟨rlo, rhi, rp⟩ := r
      replace c0 : wr.cell? ⟨b, o + k * 3, none⟩ = some (.int .i64 rlo) := c0
      replace c1 : wr.cell? ⟨b, o + k * 3 + 1, none⟩ = some (.int .i64 rhi) := c1
      replace c2 : wr.cell? ⟨b, o + k * 3 + 2, none⟩ = some (.int .i64 rp) := c2
      have HO : Hid (goodR ⟨rlo, rhi, rp⟩ = (decide (0 ≤ rlo) && (decide (rlo < rhi) && (decide (0 ≤ rp) && (decide (rp ≤ 3) && decide (rhi ≤ 1073741824)))))) := rfl
      have hb4 := below_a wr (.cells #[.int .i64 rlo, .int .i64 rhi, .int .i64 rp] 29)
      have hbox := heap_alloc_new wr (.cells #[.int .i64 rlo, .int .i64 rhi, .int .i64 rp] 29)
      obtain ⟨w4, hw4⟩ : ∃ w4, wr.alloc (.cells #[.int .i64 rlo, .int .i64 rhi, .int .i64 rp] 29) = w4 := ⟨_, rfl⟩
      obtain ⟨xb, hxb⟩ : ∃ xb, wr.heap.size = xb := ⟨_, rfl⟩
      rw [hw4] at hb4 hbox
      rw [hxb] at hbox
      have B4 := Lib.hid (Below.call B.out hb4)
      have X4 := Lib.hid (O.out.below hb4)
      obtain ⟨p0, p1, p2⟩ := cells3 hbox
      clear hb4 hbox
      by_cases x1 : rlo < 0
      · skip
        have HN : Hid ((L.take (k + 1)).filter goodR = (L.take k).filter goodR) := by show _ = _; rw [HE.out, HO.out, decide_eq_false (show ¬ 0 ≤ rlo by omega)]; simp
        have d1 : decide (0 ≤ rlo) = false := decide_eq_false (by omega)
        go_wp2_with (rw [hw4])
        go_roundw
        case rel => exact ⟨k + 1, by omega, by go_num, by rw [HN.out]; exact X4.out, B4.out⟩
        case measure => simp [intOf] <;> omega
      have d1 : decide (0 ≤ rlo) = true := decide_eq_true (by omega)
      by_cases x2 : rhi ≤ rlo
      · skip
        have HN : Hid ((L.take (k + 1)).filter goodR = (L.take k).filter goodR) := by show _ = _; rw [HE.out, HO.out, decide_eq_false (show ¬ rlo < rhi by omega)]; simp
        have d2 : decide (rlo < rhi) = false := decide_eq_false (by omega)
        go_wp2_with (rw [hw4])
        go_roundw
        case rel => exact ⟨k + 1, by omega, by go_num, by rw [HN.out]; exact X4.out, B4.out⟩
        case measure => simp [intOf] <;> omega
      have d2 : decide (rlo < rhi) = true := decide_eq_true (by omega)
      by_cases x3 : rp < 0
      · skip
        have HN : Hid ((L.take (k + 1)).filter goodR = (L.take k).filter goodR) := by show _ = _; rw [HE.out, HO.out, decide_eq_false (show ¬ 0 ≤ rp by omega)]; simp
        have d3 : decide (0 ≤ rp) = false := decide_eq_false (by omega)
        go_wp2_with (rw [hw4])
        go_roundw
        case rel => exact ⟨k + 1, by omega, by go_num, by rw [HN.out]; exact X4.out, B4.out⟩
        case measure => simp [intOf] <;> omega
      have d3 : decide (0 ≤ rp) = true := decide_eq_true (by omega)
      by_cases x4 : 3 < rp
      · skip
        have HN : Hid ((L.take (k + 1)).filter goodR = (L.take k).filter goodR) := by show _ = _; rw [HE.out, HO.out, decide_eq_false (show ¬ rp ≤ 3 by omega)]; simp
        have d4 : decide (rp ≤ 3) = false := decide_eq_false (by omega)
        go_wp2_with (rw [hw4])
        go_roundw
        case rel => exact ⟨k + 1, by omega, by go_num, by rw [HN.out]; exact X4.out, B4.out⟩
        case measure => simp [intOf] <;> omega
      have d4 : decide (rp ≤ 3) = true := decide_eq_true (by omega)
      by_cases x5 : 1073741824 < rhi
      · skip
        have HN : Hid ((L.take (k + 1)).filter goodR = (L.take k).filter goodR) := by show _ = _; rw [HE.out, HO.out, decide_eq_false (show ¬ rhi ≤ 1073741824 by omega)]; simp
        have d5 : decide (rhi ≤ 1073741824) = false := decide_eq_false (by omega)
        go_wp2_with (rw [hw4])
        go_roundw
        case rel => exact ⟨k + 1, by omega, by go_num, by rw [HN.out]; exact X4.out, B4.out⟩
        case measure => simp [intOf] <;> omega
      have d5 : decide (rhi ≤ 1073741824) = true := decide_eq_true (by omega)
      have HN : Hid ((L.take (k + 1)).filter goodR = (L.take k).filter goodR ++ [⟨rlo, rhi, rp⟩]) := by show _ = _; rw [HE.out, HO.out, d1, d2, d3, d4, d5]; rfl
      go_wp2_with (first | (rw [hw4]) | (at_builtin; refine appS_one rgC Try.underlying22 rgI rfl (by decide) rfl (.tmp 46) (.tmp 48) rfl _ w.heap.size _ _ rfl (X4.out.alloc _) _ 1 ⟨rlo, rhi, rp⟩ rfl (heap_alloc_new w4 _) (by have := HLEN.out; omega) (by have := B4.out.size; simp; omega) ?_; intro v1 w1 ho1 hg1))
      go_roundw
      case rel => exact ⟨k + 1, by omega, by go_num, by rw [HN.out]; exact ho1, own_step B4.out X4.out (below_a _ _) hg1⟩
      case measure => simp [intOf] <;> omega
    · obtain rfl : k = n := by omega
      have hl := H.out.len
      have e : L.take k = L := List.take_of_length_le (by omega)
      rw [e] at O
      have hgl := filter_le L k
      rw [e] at hgl
      have hsm := good_all (L := L)
      obtain ⟨G, hG⟩ : ∃ G, L.filter goodR = G := ⟨_, rfl⟩
      have HGOAL : Hid (refClean L = madeL (lastP G) (cutsL G [])) := by show _ = _; unfold refClean; rw [hG]
      rw [hG] at O hgl hsm
      obtain ⟨gl, hgl2⟩ : ∃ gl, G.length = gl := ⟨_, rfl⟩
      obtain ⟨ag, cg, rfl⟩ := O.out.shapeN gl hgl2
      have hglb : gl ≤ 400 := by omega
      have HSM := Lib.hid hsm
      have HGL := Lib.hid hgl2
      have HC := Lib.hid (cuts_any ag gl cg G none 0 0 [] wr (O.out.rd rgC) (by omega) (fun r hr => (HSM.out r hr).wf) (RdAt.nil _ _) (by omega))
      clear hl e hgl hsm hG hgl2
      go_wp2_with (go_at_call 33; refine HC.out.mono ?_; rintro e w2 ⟨v2, rfl, ho2, hb2⟩)
      have hl1 := cutsL_le G []
      obtain ⟨A, hA⟩ : ∃ A, cutsL G [] = A := ⟨_, rfl⟩
      rw [hA] at ho2 hl1 HGOAL
      obtain ⟨q, hq⟩ : ∃ q, A.length = q := ⟨_, rfl⟩
      obtain ⟨aq, cq, rfl⟩ := ho2.shapeN q hq
      have O2 := Lib.hid ho2
      have hqb : q ≤ 800 := by have := HGL.out; simp at hl1; omega
      have HQ := Lib.hid hq
      have G2 := Lib.hid ((O.out.rd rgC).below hb2)
      have B2 := Lib.hid (Below.call B.out hb2)
      obtain ⟨F, hF⟩ : ∃ F, lastP G = F := ⟨_, rfl⟩
      rw [hF] at HGOAL
      have HF : Hid (∀ x, lastP (G.take gl) x = F x) := by
        show ∀ x, _
        intro x
        rw [List.take_of_length_le (Nat.le_of_eq HGL.out), hF]
      have HFW : Hid (∀ x, (Lit.int .i64 (F x)).wf = true) := by
        show ∀ x, _
        intro x
        rw [← hF]
        exact lastP_wf x HSM.out
      clear HC ho2 hb2 hl1 hA hq hF O
      go_loopw [7, 8] (fun v i wo => ∃ k : Nat, (k + 1 ≤ q ∨ k = 0) ∧ i = .int .i64 k ∧ Hid (Owns .i64 3 wo w2.heap.size v ((A.take k).map F) ∧ Below w2.heap.size w2 wo)) (fun _ i _ => q - (intOf i).toNat)
      case atStart => exact ⟨0, .inr rfl, rfl, Owns.nil _ _ _ _, Below.refl _ _⟩
      case round =>
        obtain ⟨i, hi, rfl, hh⟩ := hrel
        obtain ⟨h1, h2⟩ := hh.out
        have X := Lib.hid h1
        have BX := Lib.hid h2
        clear hh h1 h2
        have hk1w : IntKind.i64.wrap ((i : Int) + 1) = (i : Int) + 1 := IntWalk.i64_in _ (by omega)
        obtain ⟨wL, rfl⟩ : ∃ wL : World, wL = wr := ⟨_, rfl⟩
        by_cases hkn : i + 1 < q
        · have hkn0 : i < q := by omega
          have hkci : decide ((i : Int) + 1 < (q : Int)) = true := decide_eq_true (by omega)
          have hl := HQ.out
          obtain ⟨x, hx⟩ : ∃ x, A[i]? = some x := ⟨A[i], List.getElem?_eq_getElem (by omega)⟩
          have HCX0 : Hid (∃ ga oa, aq = some ⟨ga, oa, none⟩ ∧ ∀ z, Below w2.heap.size w2 z → z.cell? ⟨ga, oa + i, none⟩ = some (.int .i64 x)) := by
            obtain ⟨ga, oa, ea, _⟩ := O2.out.rd.cell i (by omega)
            refine ⟨ga, oa, ea, fun z hb => ?_⟩
            obtain ⟨g', o', e', c0⟩ := (O2.out.rd.below hb).cell i (by omega)
            rw [ea] at e'
            injection e' with e'
            injection e' with e1 e2
            subst e1 e2
            rw [show nth A i = x by unfold nth; rw [List.getD_eq_getElem?_getD, hx]; rfl] at c0
            exact c0
          obtain ⟨ga, oa, ea, hcx⟩ := HCX0.out
          subst ea
          have HCX := Lib.hid hcx
          have HE : Hid ((A.take (i + 1)).map F = (A.take i).map F ++ [F x]) := map_take_one F hx
          have hjl : ((A.take i).map F).length ≤ 2002 := by simp; omega
          have HJL := Lib.hid hjl
          clear HCX0 hcx hl hx hjl
          go_wp2
          go_loopw [9, 10] (fun h j wi => ∃ m : Nat, m ≤ gl ∧ h = .int .i64 (lastP (G.take m) x) ∧ j = .int .i64 m ∧ Hid (Below wL.heap.size wL wi)) (fun _ j _ => gl - (intOf j).toNat)
          case atStart => exact ⟨0, by omega, rfl, rfl, Below.refl _ _⟩
          case round =>
            obtain ⟨m, hm, rfl, rfl, BI⟩ := hrel
            have HB2 : Hid (Below w2.heap.size w2 wr) := Below.call BX.out BI.out
            have c0 := HCX.out wr HB2.out
            by_cases hmn : m < gl
            · have hl := HGL.out
              obtain ⟨r, hr⟩ : ∃ r, G[m]? = some r := ⟨G[m], List.getElem?_eq_getElem (by omega)⟩
              obtain ⟨b, o, ha, z0, z1, z2⟩ := (G2.out.below HB2.out).three m r hr
              subst ha
              have HL := Lib.hid (lastP_snoc x hr)
              clear hr hl
              obtain ⟨rlo, rhi, rp⟩ := r
              replace z0 : wr.cell? ⟨b, o + m * 3, none⟩ = some (.int .i64 rlo) := z0
              replace z1 : wr.cell? ⟨b, o + m * 3 + 1, none⟩ = some (.int .i64 rhi) := z1
              replace z2 : wr.cell? ⟨b, o + m * 3 + 2, none⟩ = some (.int .i64 rp) := z2
              obtain ⟨P, hP⟩ : ∃ P, lastP (G.take m) x = P := ⟨_, rfl⟩
              rw [hP] at HL ⊢
              replace HL : Hid (lastP (G.take (m + 1)) x = if rlo ≤ x ∧ x < rhi then rp else P) := HL
              clear hP
              by_cases y1 : rlo ≤ x
              · by_cases y2 : x < rhi
                · have HN : Hid (lastP (G.take (m + 1)) x = rp) := by show _ = _; rw [HL.out, if_pos ⟨y1, y2⟩]
                  have e1 : decide (rlo ≤ x) = true := decide_eq_true y1
                  have e2 : decide (x < rhi) = true := decide_eq_true y2
                  have HZ := Lib.hid z2
                  go_wp2
                  go_quiet (fail)
                  go_wp2
                  go_roundw
                  case rel => exact ⟨m + 1, by omega, by rw [HN.out], by go_num, Below.call BI.out (belowN (Below.refl _ _) _)⟩
                  case measure => simp [intOf] <;> omega
                · have HN : Hid (lastP (G.take (m + 1)) x = P) := by show _ = _; rw [HL.out, if_neg (fun e => y2 e.2)]
                  have e1 : decide (rlo ≤ x) = true := decide_eq_true y1
                  have e2 : decide (x < rhi) = false := decide_eq_false y2
                  go_wp2
                  go_quiet (fail)
                  go_wp2
                  go_roundw
                  case rel => exact ⟨m + 1, by omega, by rw [HN.out], by go_num, Below.call BI.out (belowN (Below.refl _ _) _)⟩
                  case measure => simp [intOf] <;> omega
              · have HN : Hid (lastP (G.take (m + 1)) x = P) := by show _ = _; rw [HL.out, if_neg (fun e => y1 e.1)]
                have e1 : decide (rlo ≤ x) = false := decide_eq_false y1
                go_wp2
                go_quiet (fail)
                go_wp2
                go_roundw
                case rel => exact ⟨m + 1, by omega, by rw [HN.out], by go_num, Below.call BI.out (belowN (Below.refl _ _) _)⟩
                case measure => simp [intOf] <;> omega
            · obtain rfl : m = gl := by omega
              rw [HF.out x]
              have HO3 : Hid (Owns .i64 3 wr w2.heap.size u7 ((A.take i).map F)) := X.out.below BI.out
              go_wp2_with (at_builtin; refine app_one intT intI (by decide) rfl (.tmp 92) (.tmp 94) rfl _ w2.heap.size _ ((A.take i).map F) rfl HO3.out (F x) rfl (HFW.out x) (by have := HJL.out; omega) HB2.out.size ?_; intro v3 w3 ho3 hg3)
              go_roundw
              case rel =>
                refine ⟨i + 1, by omega, by go_num, ?_, HB2.out.trans (hg3.below HB2.out.size (fun y e => (HO3.out.at_base y e).1))⟩
                rw [HE.out]
                exact ho3
              case measure => simp [intOf] <;> omega
        · have hkci : decide ((i : Int) + 1 < (q : Int)) = false := decide_eq_false (by omega)
          have hl := HQ.out
          have e : A.take i = A.dropLast := by
            rw [List.dropLast_eq_take, hl]
            congr 1
            omega
          rw [e] at X
          obtain ⟨pl, hpl⟩ : ∃ pl, (A.dropLast.map F).length = pl := ⟨_, rfl⟩
          obtain ⟨ap, cp, rfl⟩ := X.out.shapeN pl hpl
          have HM := Lib.hid (made_any aq q cq A ap pl cp F wL ((O2.out.rd).below BX.out) X.out.rd (by omega))
          clear hl e hpl
          go_wp2_with (go_at_call 34; refine HM.out.mono ?_; rintro e w4 ⟨v4, rfl, ho4, hb4⟩)
          go_ret
          rw [HGOAL.out]
          have hb : Below w.heap.size w wL := Below.call B2.out BX.out
          exact ⟨_, rfl, ho4.mono hb.size, Below.call hb hb4⟩
end Go.Proofs.Ytoampbdipmecmaa
