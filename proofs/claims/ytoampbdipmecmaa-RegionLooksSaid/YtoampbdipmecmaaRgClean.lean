/- region: Clean. -/
import Derived.Test.YtoampbdipmecmaaRgMap2
import Derived.Test.YtoampbdipmecmaaKill
import Derived.Test.YtoampbdipmecmaaRegion
namespace Go.Proofs.Ytoampbdipmecmaa
open Go.RowKit
theorem cutOne_one {lo hi : Int} {s : Rg} (h : lo < hi) (hs : ¬ (s.lo < lo ∧ hi < s.hi)) : (cutOne lo hi s).length ≤ 1 := by
  unfold cutOne
  by_cases a : s.lo < min s.hi lo
  · by_cases b : max s.lo hi < s.hi
    · omega
    · rw [if_pos a, if_neg b]; simp
  · by_cases b : max s.lo hi < s.hi
    · rw [if_neg a, if_pos b]; simp
    · rw [if_neg a, if_neg b]; simp
theorem cutL_none_long : ∀ {L : List Rg} {lo hi : Int}, lo < hi → (∀ s ∈ L, ¬ (s.lo < lo ∧ hi < s.hi)) → (cutL L lo hi).length ≤ L.length
  | [], lo, hi, _, _ => by rw [cutL_nil]; exact Nat.le_refl _
  | s :: L, lo, hi, h, hs => by
    rw [cutL_cons h, List.length_append, List.length_cons]
    have h1 := cutOne_one h (hs s (List.mem_cons_self ..))
    have h2 := cutL_none_long (L := L) h (fun q hq => hs q (List.mem_cons_of_mem _ hq))
    omega
/-- Of parted regions one at most is cut in two. -/
theorem cutL_one : ∀ {L : List Rg} {lo hi : Int}, lo < hi → Parted L → (cutL L lo hi).length ≤ L.length + 1
  | [], lo, hi, _, _ => by rw [cutL_nil]; simp
  | s :: L, lo, hi, h, hp => by
    obtain ⟨p1, p2⟩ := List.pairwise_cons.1 hp
    rw [cutL_cons h, List.length_append, List.length_cons]
    by_cases hs : s.lo < lo ∧ hi < s.hi
    · have h1 := cutOne_len lo hi s
      have h2 := cutL_none_long (L := L) h (fun q hq => by
        have := p1 q hq
        unfold Apart at this
        omega)
      omega
    · have h1 := cutOne_one h hs
      have h2 := cutL_one (L := L) h p2
      omega
theorem laidL_snoc (l : List Rg) (r : Rg) : laidL (l ++ [r]) = layR (laidL l) r := by
  unfold laidL
  rw [List.foldl_append]
  rfl
theorem laidL_len : ∀ (l : List Rg) (k : Nat), (laidL (l.take k)).length ≤ 2 * k
  | l, 0 => by simp [laidL]
  | l, k + 1 => by
    have h := laidL_len l k
    rw [List.take_add_one]
    cases hk : l[k]? with
    | none => simp; omega
    | some r =>
      rw [show (some r).toList = [r] from rfl, laidL_snoc]
      unfold layR
      split
      · rename_i hg
        have := cutL_one (goodR_iff.1 hg).2.1 (laid_laid (l.take k)).parted
        simp
        omega
      · omega
theorem grows_low {w w' : World} {B : Nat} {v v' : Value} {L : List Rg} (hg : Grows w v w' v') (h : OwnsS Rg.cells 3 29 w B v L) (hB : B ≤ w.heap.size) : Below B w w' := hg.below hB (fun g e => (h.at_base g e).1)
theorem wp_appS_one {α : Type} {m : α → List Value} {k : Nat} {e : TypeId} {P : Program} {T bytes : Nat} {z : Value} {o : Oper} {t : Array Value} {ds : List Deferred} {K : Act → World → Prop} {Q : Exit → Act → World → Prop} (C : Cellular m k) (hT : P.underlying T = some (.slice e)) (hI : (P.info? e).map (fun i => (i.zero, i.size, i.bytes)) = some (some z, k, bytes)) (hzc : z.cells.size = k) (hby : bytes ≤ 128) (d : Tmp) (hd : o.dst = some d) (s x : Operand)
    (ho : o.op = .call { callee := .builtin .append, args := #[s, x], argTypes := #[T, T] }) {w : World} (base : Nat) (v : Value) (L : List α) (hs : (Act.mk t ds).eval s = v) (hown : OwnsS m k e w base v L)
    (g c : Nat) (q : α) (hx : (Act.mk t ds).eval x = .slice (some ⟨g, 0, none⟩) 1 c) (hrow : w.heap[g]? = some (.cells (m q).toArray e (0, 0))) (hlen : L.length < 1000000000000) (hbase : base ≤ w.heap.size)
    (hK : ∀ v' w', OwnsS m k e w' base v' (L ++ [q]) → Grows w v w' v' → K ⟨t.setIfInBounds d v', ds⟩ w') : Oper.wp P o ⟨t, ds⟩ w K Q := by
  obtain ⟨v', w', hr, h1, h2⟩ := run_appS_one (P := P) C hT hI hzc hby o.type w base v L hown g c q hrow hlen hbase
  refine wp_of_run d hd (v := v') (w' := w') ?_ (hK v' w' h1 h2)
  unfold execOp
  simp only [ho, resolve, invoke, builtin, Sem.run_bind, Sem.run_pure, Result.andThen_ok, List.map_toArray, List.map_cons, List.map_nil, hs, hx, hr]
set_option linter.unusedSimpArgs false in
set_option linter.unusedVariables false in
set_option maxRecDepth 100000 in
set_option maxHeartbeats 1600000 in
theorem clean_any (a : Option Addr) (n c : Nat) (L : List Rg) (w : World) (h : RdS Rg.cells 3 w a n c L) (hn : n ≤ 400) :
    Calls Try.prog 9 #[.slice a n c] w (GivesRgs (cleanL L) w) := by
  have H := Lib.hid h
  clear h
  go_enter Try.func9, Try.ntmps9
  go_wp2
  go_loopw [3, 8] (fun v i wr => ∃ k : Nat, k ≤ n ∧ i = .int .i64 k ∧ Hid (OwnsS Rg.cells 3 29 wr w.heap.size v (laidL (L.take k)) ∧ Below w.heap.size w wr)) (fun _ i _ => n - (intOf i).toNat)
  case atStart => exact ⟨0, by omega, rfl, OwnsS.nil _ _ _ _ _, Below.refl _ _⟩
  case round =>
    obtain ⟨k, hk, rfl, hh⟩ := hrel
    obtain ⟨h1, h2⟩ := hh.out
    have O := Lib.hid h1
    have B := Lib.hid h2
    clear hh h1 h2
    by_cases hkn : k < n
    · have hl := H.out.len
      obtain ⟨r, hr⟩ : ∃ r, L[k]? = some r := ⟨L[k], List.getElem?_eq_getElem (by omega)⟩
      obtain ⟨b, o, ha, c0, c1, c2⟩ := (H.out.below B.out).three k r hr
      subst ha
      have hd : laidL (L.take (k + 1)) = layR (laidL (L.take k)) r := by
        rw [List.take_add_one, hr, show (some r).toList = [r] from rfl, laidL_snoc]
      have hlen := laidL_len L k
      have hlaid := laid_laid (L.take k)
      obtain ⟨D, hD⟩ : ∃ D, laidL (L.take k) = D := ⟨_, rfl⟩
      rw [hD] at O hd hlen hlaid
      have HLD := Lib.hid hlaid
      obtain ⟨q, hq⟩ : ∃ q, D.length = q := ⟨_, rfl⟩
      obtain ⟨ax, cx, rfl⟩ := O.out.shapeN q hq
      rw [hq] at hlen
      have HQ := Lib.hid hq
      have hal := below_a wr (.cells #[.int .i64 r.lo, .int .i64 r.hi, .int .i64 r.p] 29)
      have hbox := heap_alloc_new wr (.cells #[.int .i64 r.lo, .int .i64 r.hi, .int .i64 r.p] 29)
      have hx4 := O.out.below hal
      have hb4 := Below.call B.out hal
      obtain ⟨w4, hw4⟩ : ∃ w4, wr.alloc (.cells #[.int .i64 r.lo, .int .i64 r.hi, .int .i64 r.p] 29) = w4 := ⟨_, rfl⟩
      obtain ⟨xb, hxb⟩ : ∃ xb, wr.heap.size = xb := ⟨_, rfl⟩
      rw [hw4] at hx4 hb4 hbox
      rw [hxb] at hbox
      have X4 := Lib.hid hx4
      have B4 := Lib.hid hb4
      have R4 := Lib.hid hbox
      obtain ⟨p0, p1, p2⟩ := cells3 hbox
      have HDD := Lib.hid hd
      clear hr hl hd hD hq hal hbox hx4 hb4 hlaid
      obtain ⟨rlo, rhi, rp⟩ := r
      replace p0 : w4.cell? ⟨xb, 0, none⟩ = some (.int .i64 rlo) := p0
      replace p1 : w4.cell? ⟨xb, 1, none⟩ = some (.int .i64 rhi) := p1
      replace p2 : w4.cell? ⟨xb, 2, none⟩ = some (.int .i64 rp) := p2
      obtain ⟨RB, hRB⟩ : ∃ x, rightB rlo rhi rp = x := ⟨_, rfl⟩
      have HRT := Lib.hid (right_any rlo rhi rp)
      rw [hRB] at HRT
      have hgood : goodR ⟨rlo, rhi, rp⟩ = (RB && decide (rhi ≤ 1073741824)) := by
        rw [← hRB]
        show (decide (0 ≤ rlo) && (decide (rlo < rhi) && (decide (0 ≤ rp) && (decide (rp ≤ 3) && decide (rhi ≤ 1073741824))))) = _
        unfold rightB protB
        simp only [Bool.and_assoc]
      have HG := Lib.hid hgood
      have HRB := Lib.hid hRB
      clear hgood hRB
      cases RB with
      | false =>
        have HN : Hid (laidL (L.take (k + 1)) = D) := by
          show _ = _
          rw [HDD.out]
          unfold layR
          rw [HG.out, if_neg (by simp)]
        go_wp2_with (first | (rw [hw4]) | (go_at_call 28; refine (HRT.out _).mono ?_; rintro e w' ⟨rfl, rfl⟩))
        go_roundw
        case rel => exact ⟨k + 1, by omega, by go_num, by rw [HN.out]; exact X4.out, B4.out⟩
        case measure => simp [intOf] <;> omega
      | true =>
        by_cases hhi : rhi ≤ 1073741824
        rotate_left
        · have HN : Hid (laidL (L.take (k + 1)) = D) := by
            show _ = _
            rw [HDD.out]
            unfold layR
            rw [HG.out, decide_eq_false hhi, if_neg (by simp)]
          go_wp2_with (first | (rw [hw4]) | (go_at_call 28; refine (HRT.out _).mono ?_; rintro e w' ⟨rfl, rfl⟩))
          go_roundw
          case rel => exact ⟨k + 1, by omega, by go_num, by rw [HN.out]; exact X4.out, B4.out⟩
          case measure => simp [intOf] <;> omega
        have hgd : goodR ⟨rlo, rhi, rp⟩ = true := by rw [HG.out, decide_eq_true hhi]; rfl
        have HN : Hid (laidL (L.take (k + 1)) = cutL D rlo rhi ++ [⟨rlo, rhi, rp⟩]) := by
          show _ = _
          rw [HDD.out]
          unfold layR
          rw [if_pos hgd]
        have HLEN : Hid ((cutL D rlo rhi).length < 1000000000000) := by
          show _ < _
          have h1 := cutL_len D rlo rhi
          have h2 := HQ.out
          omega
        go_wp2_with (first | (rw [hw4]) | (go_at_call 28; refine (HRT.out _).mono ?_; rintro e w' ⟨rfl, rfl⟩))
        obtain ⟨wR, hwR⟩ : ∃ wR, wR = w4 := ⟨_, rfl⟩
        subst hwR
        have XR := R4
        have HCUT : Hid (∀ w1, Below wR.heap.size wR w1 → Calls Try.prog 29 #[.slice ax q cx, .int .i64 rlo, .int .i64 rhi] w1 (GivesRgs (cutL D rlo rhi) w1)) := fun w1 hb => cut_any ax q cx D rlo rhi w1 ((OwnsS.rd rgC X4.out).below hb) (by omega) HLD.out.nice
        clear hgd c0 c1 c2 p0 p1 p2 R4
        refine' reg_kill [(8, 5), (8, 7)] [eqV _, eqV _, eqV _, eqV _, eqV _, (fun v w => OwnsS Rg.cells 3 29 w wR.heap.size v (cutL D rlo rhi)), eqV _, (fun v w => ∃ g, v = Value.slice (some ⟨g, 0, none⟩) 1 1 ∧ w.heap[g]? = some (.cells #[.int .i64 rlo, .int .i64 rhi, .int .i64 rp] 29 (0, 0))), (fun v w => OwnsS Rg.cells 3 29 w wR.heap.size v (cutL D rlo rhi ++ [⟨rlo, rhi, rp⟩])), (fun v w => OwnsS Rg.cells 3 29 w wR.heap.size v (cutL D rlo rhi ++ [⟨rlo, rhi, rp⟩]))] [(8, fun w w' => Below wR.heap.size w w')] [(2, fun w => Below wR.heap.size wR w), (4, fun w => Below wR.heap.size wR w), (5, fun w => Below wR.heap.size wR w), (6, fun w => Below wR.heap.size wR w), (7, fun w => Below wR.heap.size wR w), (8, fun w => Below wR.heap.size wR w), (10, fun w => Below wR.heap.size wR w)] [24, 25, 26, 27, 28, 29, 30, 31, 32, 3] [[], [], [1], [], [3], [0, 2, 4], [], [6], [5, 7], [8]] [0, 1, 2, 3, 4, 5, 6, 7, 8, 9] 10 (by kernel_rfl) (by kernel_rfl) ⟨eqV_stays _, eqV_stays _, eqV_stays _, eqV_stays _, eqV_stays _, fun _ _ _ p b => OwnsS.below p b, eqV_stays _, fun _ _ _ ⟨g, e, p⟩ b => ⟨g, e, row_keep p b⟩, fun _ _ _ p b => OwnsS.below p b, fun _ _ _ p b => OwnsS.below p b, trivial⟩ ⟨⟨.inl (eqV_stays _), .inl (eqV_stays _), .inl (eqV_stays _), .inl (eqV_stays _), .inl (eqV_stays _), .inr (.inr (.inr (by kernel_rfl))), .inl (eqV_stays _), .inr (.inr (.inr (by kernel_rfl))), .inr (.inr (.inl rfl)), .inr (.inl (by kernel_rfl)), trivial⟩, trivial⟩ ⟨fun _ _ p b => p.trans (b.mono p.size), fun _ _ p b => p.trans (b.mono p.size), fun _ _ p b => p.trans (b.mono p.size), fun _ _ p b => p.trans (b.mono p.size), fun _ _ p b => p.trans (b.mono p.size), fun _ _ p b => p.trans (b.mono p.size), fun _ _ p b => p.trans (b.mono p.size), trivial⟩ ⟨⟨.inr (.inl (by kernel_rfl)), .inr (.inl (by kernel_rfl)), .inr (.inl (by kernel_rfl)), .inr (.inl (by kernel_rfl)), .inr (.inl (by kernel_rfl)), .inr (.inr rfl), .inl (fun _ _ p g => p.trans g), trivial⟩, trivial⟩ ⟨(Below.refl wR.heap.size wR).drew, (Below.refl wR.heap.size wR).drew, (Below.refl wR.heap.size wR).drew, (Below.refl wR.heap.size wR).drew, (Below.refl wR.heap.size wR).drew, (Below.refl wR.heap.size wR).drew, (Below.refl wR.heap.size wR).drew, trivial⟩ 36 rfl (by kernel_rfl) (by kernel_rfl) rfl rfl 10 rfl ?q1obl ?q1fin
        case q1obl =>
          refine And.intro ?q1o0 (And.intro ?q1o1 (And.intro ?q1o2 (And.intro ?q1o3 (And.intro ?q1o4 (And.intro ?q1o5 (And.intro ?q1o6 (And.intro ?q1o7 (And.intro ?q1o8 (And.intro ?q1o9 (True.intro))))))))))
          case q1o0 =>
            intro w1 hI
            refine turn2_on (by rfl) ?_
            intro K hK
            go_simp
            refine hK _ _ ⟨rfl, Kept.refl _, ?_⟩
            show _ = _
            simp only [List.getD_cons_zero, List.getD_cons_succ, Array.getD_eq_getD_getElem?, List.getElem?_toArray, List.getElem?_cons_zero, List.getElem?_cons_succ, Option.getD_some]
            rfl
          case q1o1 =>
            intro w1 hI
            refine turn2_on (by rfl) ?_
            intro K hK
            go_simp
            refine hK _ _ ⟨rfl, Kept.refl _, ?_⟩
            show _ = _
            simp only [List.getD_cons_zero, List.getD_cons_succ, Array.getD_eq_getD_getElem?, List.getElem?_toArray, List.getElem?_cons_zero, List.getElem?_cons_succ, Option.getD_some]
            rfl
          case q1o2 =>
            intro w1 hI
            replace hI : (fun w => Below wR.heap.size wR w) w1 := hI
            intro v1 h1
            change _ = _ at h1
            subst v1
            refine turn2_on (by rfl) ?_
            intro K hK
            simp only [List.getD_cons_zero, List.getD_cons_succ, List.setIfInBounds_toArray, List.set_cons_zero, List.set_cons_succ]
            obtain ⟨p0, p1, p2⟩ := cells3 (row_keep XR.out hI)
            go_simp
            refine hK _ _ ⟨rfl, Kept.refl _, ?_⟩
            show _ = _
            simp only [List.getD_cons_zero, List.getD_cons_succ, Array.getD_eq_getD_getElem?, List.getElem?_toArray, List.getElem?_cons_zero, List.getElem?_cons_succ, Option.getD_some]
            rfl
          case q1o3 =>
            intro w1 hI
            refine turn2_on (by rfl) ?_
            intro K hK
            go_simp
            refine hK _ _ ⟨rfl, Kept.refl _, ?_⟩
            show _ = _
            simp only [List.getD_cons_zero, List.getD_cons_succ, Array.getD_eq_getD_getElem?, List.getElem?_toArray, List.getElem?_cons_zero, List.getElem?_cons_succ, Option.getD_some]
            rfl
          case q1o4 =>
            intro w1 hI
            replace hI : (fun w => Below wR.heap.size wR w) w1 := hI
            intro v3 h3
            change _ = _ at h3
            subst v3
            refine turn2_on (by rfl) ?_
            intro K hK
            simp only [List.getD_cons_zero, List.getD_cons_succ, List.setIfInBounds_toArray, List.set_cons_zero, List.set_cons_succ]
            obtain ⟨p0, p1, p2⟩ := cells3 (row_keep XR.out hI)
            go_simp
            refine hK _ _ ⟨rfl, Kept.refl _, ?_⟩
            show _ = _
            simp only [List.getD_cons_zero, List.getD_cons_succ, Array.getD_eq_getD_getElem?, List.getElem?_toArray, List.getElem?_cons_zero, List.getElem?_cons_succ, Option.getD_some]
            rfl
          case q1o5 =>
            intro w1 hI
            replace hI : (fun w => Below wR.heap.size wR w) w1 := hI
            intro v0 h0
            change _ = _ at h0
            subst v0
            intro v2 h2
            change _ = _ at h2
            subst v2
            intro v4 h4
            change _ = _ at h4
            subst v4
            refine turn2_on (by rfl) ?_
            intro K hK
            simp only [List.getD_cons_zero, List.getD_cons_succ, List.setIfInBounds_toArray, List.set_cons_zero, List.set_cons_succ]
            go_simp
            refine Calls.mono (HCUT.out w1 hI) ?_
            rintro e w9 ⟨v9, rfl, ho9, hb9⟩
            refine hK _ _ ⟨rfl, hb9, ?_⟩
            show OwnsS _ _ _ _ _ _ _
            simp only [List.getD_cons_zero, List.getD_cons_succ, Array.getD_eq_getD_getElem?, List.getElem?_toArray, List.getElem?_cons_zero, List.getElem?_cons_succ, Option.getD_some]
            exact ho9.mono hI.size
          case q1o6 =>
            intro w1 hI
            replace hI : (fun w => Below wR.heap.size wR w) w1 := hI
            refine turn2_on (by rfl) ?_
            intro K hK
            obtain ⟨p0, p1, p2⟩ := cells3 (row_keep XR.out hI)
            go_simp
            refine hK _ _ ⟨rfl, Kept.refl _, ?_⟩
            show _ = _
            simp only [List.getD_cons_zero, List.getD_cons_succ, Array.getD_eq_getD_getElem?, List.getElem?_toArray, List.getElem?_cons_zero, List.getElem?_cons_succ, Option.getD_some]
            rfl
          case q1o7 =>
            intro w1 hI
            replace hI : (fun w => Below wR.heap.size wR w) w1 := hI
            intro v6 h6
            change _ = _ at h6
            subst v6
            refine turn2_on (by rfl) ?_
            intro K hK
            simp only [List.getD_cons_zero, List.getD_cons_succ, List.setIfInBounds_toArray, List.set_cons_zero, List.set_cons_succ]
            go_simp
            refine hK _ _ ⟨rfl, below_a _ _, ?_⟩
            show ∃ g, _ = Value.slice (some ⟨g, 0, none⟩) 1 1 ∧ _
            simp only [List.getD_cons_zero, List.getD_cons_succ, Array.getD_eq_getD_getElem?, List.getElem?_toArray, List.getElem?_cons_zero, List.getElem?_cons_succ, Option.getD_some]
            exact ⟨_, rfl, heap_alloc_new _ _⟩
          case q1o8 =>
            intro w1 hI
            replace hI : (fun w => Below wR.heap.size wR w) w1 := hI
            intro v5 h5
            intro v7 h7
            obtain ⟨g7, rfl, h7⟩ := h7
            refine turn2_on (by rfl) ?_
            intro K hK
            simp only [List.getD_cons_zero, List.getD_cons_succ, List.setIfInBounds_toArray, List.set_cons_zero, List.set_cons_succ]
            refine wp_appS_one rgC Try.underlying22 rgI rfl (by decide) 32 rfl (.tmp 29) (.tmp 31) rfl wR.heap.size v5 (cutL D rlo rhi) rfl h5 g7 1 ⟨rlo, rhi, rp⟩ rfl h7 HLEN.out hI.size ?_
            intro v9 w9 ho9 hg9
            refine hK _ _ ⟨rfl, grows_low hg9 h5 hI.size, ?_⟩
            show OwnsS _ _ _ _ _ _ _
            simp only [List.getD_cons_zero, List.getD_cons_succ, Array.getD_eq_getD_getElem?, List.getElem?_toArray, List.getElem?_cons_zero, List.getElem?_cons_succ, Option.getD_some]
            exact ho9
          case q1o9 =>
            intro w1 hI
            intro v8 h8
            refine turn2_on (by rfl) ?_
            intro K hK
            simp only [List.getD_cons_zero, List.getD_cons_succ, List.setIfInBounds_toArray, List.set_cons_zero, List.set_cons_succ]
            go_simp
            refine hK _ _ ⟨rfl, Kept.refl _, ?_⟩
            show OwnsS _ _ _ _ _ _ _
            simp only [List.getD_cons_zero, List.getD_cons_succ, Array.getD_eq_getD_getElem?, List.getElem?_toArray, List.getElem?_cons_zero, List.getElem?_cons_succ, Option.getD_some]
            exact h8
        intro w1 hI
        replace hI : (fun w => Below wR.heap.size wR w) w1 := hI
        intro v0 h0
        replace h0 := h0 (by kernel_rfl)
        change _ = _ at h0
        subst v0
        intro v1 h1
        replace h1 := h1 (by kernel_rfl)
        change _ = _ at h1
        subst v1
        intro v2 h2
        replace h2 := h2 (by kernel_rfl)
        change _ = _ at h2
        subst v2
        intro v3 h3
        replace h3 := h3 (by kernel_rfl)
        change _ = _ at h3
        subst v3
        intro v4 h4
        replace h4 := h4 (by kernel_rfl)
        change _ = _ at h4
        subst v4
        intro v5 _
        intro v6 h6
        replace h6 := h6 (by kernel_rfl)
        change _ = _ at h6
        subst v6
        intro v7 _
        intro v8 h8
        replace h8 := h8 (by kernel_rfl)
        intro v9 h9
        replace h9 := h9 (by kernel_rfl)
        simp only [Given, List.getD_cons_zero, List.getD_cons_succ, List.setIfInBounds_toArray, List.set_cons_zero, List.set_cons_succ]
        go_wp2
        go_roundw
        case rel => exact ⟨k + 1, by omega, by go_num, by rw [HN.out]; exact OwnsS.mono h9 B4.out.size, Below.call B4.out hI⟩
        case measure => simp [intOf] <;> omega
    · obtain rfl : k = n := by omega
      have hl := H.out.len
      have e : L.take k = L := List.take_of_length_le (by omega)
      have hlaid := laid_laid L
      have hlen := laidL_len L k
      rw [e] at O hlen
      have HJ : Hid (∀ v w1, OwnsS Rg.cells 3 29 w1 w.heap.size v (laidL L) → Calls Try.prog 30 #[v] w1 (GivesJoined (laidL L) v w1)) := fun v w1 ho =>
        joined_all w.heap.size v _ w1 ho (fun r hr => by have := hlaid.lo r hr; have := hlaid.nice r hr; omega) (by omega) hlaid.parted hlaid.nice
      clear hl e hlaid hlen
      go_wp2_with fail
      refine (HJ.out _ wr O.out).mono ?_
      rintro e w2 ⟨v2, rfl, ho2, hg2⟩
      have hb2 : Below w.heap.size w w2 := Below.grown B.out hg2 B.out.size (fun k e => (O.out.at_base k e).1)
      have ho3 := ho2.mono B.out.size
      have HB := Lib.hid hb2
      have HO := Lib.hid ho3
      clear hb2 ho2 hg2 ho3
      go_wp2
      go_ret
      exact ⟨_, rfl, HO.out, HB.out⟩
end Go.Proofs.Ytoampbdipmecmaa
