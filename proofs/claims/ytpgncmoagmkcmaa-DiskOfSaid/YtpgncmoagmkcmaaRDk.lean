/- disk: the reference's disk: Of, Read (nothing pending). -/
import Derived.Test.YtpgncmoagmkcmaaDkOf
namespace Go.Proofs.Ytpgncmoagmkcmaa
open Go.RowKit
/-- The reference's disk, nothing pending, the power on. -/
structure RDk (w : World) (B r : Nat) (q s : Nat) (l : List Int) (rd : Int) : Prop where
  ex : ∃ bv, w.heap[r]? = some (.cells #[.int .i64 q, .int .i64 s, bv, .slice none 0 0, .bool false, .int .i64 0, .slice none 0 0, .int .i64 0, .int .i64 rd] 61 (0, 0)) ∧ Owns .u8 5 w B bv l ∧ room bv ≠ some r ∧ B ≤ r
theorem RDk.below {w w' : World} {B r q s : Nat} {l : List Int} {rd : Int} (h : RDk w B r q s l rd) (b : Below w.heap.size w w') : RDk w' B r q s l rd := by
  obtain ⟨bv, h1, h2, h3, h4⟩ := h
  exact ⟨bv, row_keep h1 b, h2.below b, h3, h4⟩
theorem grownN {w w' : World} {row : Option Nat} (h : w.grownBy w' row) (n : Nat) : w.grownBy (w'.drewN n) row := ⟨h.os, h.tape, h.output, h.size, h.block⟩
theorem RDk.mk' {w : World} {B r q s : Nat} {l : List Int} {rd : Int} (h : ∃ bv, w.heap[r]? = some (.cells #[.int .i64 q, .int .i64 s, bv, .slice none 0 0, .bool false, .int .i64 0, .slice none 0 0, .int .i64 0, .int .i64 rd] 61 (0, 0)) ∧ Owns .u8 5 w B bv l ∧ room bv ≠ some r ∧ B ≤ r) : RDk w B r q s l rd := ⟨h⟩
set_option linter.unusedSimpArgs false in
set_option linter.unusedVariables false in
set_option maxRecDepth 100000 in
set_option maxHeartbeats 2000000 in
theorem rof_no (a : Option Addr) (n c : Nat) (l : List Int) (z : Int) (w : World) (hr : RdAt .u8 w a n c l) (hn : n ≤ 32768) (hz1 : -9223372036854775808 ≤ z) (hz2 : z ≤ 9223372036854775807) (h : z < 64 ∨ 4096 < z ∨ (n : Int) % z ≠ 0 ∨ n = 0) :
    Calls Try.prog 23 #[.slice a n c, .int .i64 z] w fun e w' => e = .returned (.tuple #[.pointer none, .int .i64 1]) ∧ Below w.heap.size w w' := by
  clear hr
  by_cases h0 : z < 64
  · have d0 : decide (z < 64) = true := decide_eq_true h0
    go_enter Try.func23, Try.ntmps23
    go_wp2
    go_ret2
    exact ⟨rfl, Below.refl _ _⟩
  have d0 : decide (z < 64) = false := decide_eq_false h0
  by_cases h1 : 4096 < z
  · have d1 : decide (4096 < z) = true := decide_eq_true h1
    go_enter Try.func23, Try.ntmps23
    go_wp2
    go_ret2
    exact ⟨rfl, Below.refl _ _⟩
  have d1 : decide (4096 < z) = false := decide_eq_false h1
  obtain ⟨r, hr1⟩ : ∃ r, (n : Int) % z = r := ⟨_, rfl⟩
  have hb1 : 0 ≤ r := by rw [← hr1]; exact Int.emod_nonneg _ (by omega)
  have hb2 : r < z := by rw [← hr1]; exact Int.emod_lt_of_pos _ (by omega)
  have m1 : Int.tmod (n : Int) z = r := by rw [Int.tmod_eq_emod_of_nonneg (by omega), hr1]
  have m2 : IntKind.i64.wrap r = r := by rw [IntKind.wrap_i64]; omega
  have hz0 : z ≠ 0 := by omega
  have d2 : decide (z = 0) = false := decide_eq_false hz0
  by_cases h3 : r = 0
  · have hn0 : n = 0 := by
      rcases h with h | h | h | h
      · exact absurd h h0
      · exact absurd h h1
      · rw [hr1] at h; exact absurd h3 h
      · exact h
    subst h3
    subst hn0
    have hz4 : (0 : Int).tmod z = 0 := by simp
    clear hr1 h m1 m2 hb1 hb2
    go_enter Try.func23, Try.ntmps23
    go_wp2
    all_goals
      go_ret2
      exact ⟨rfl, Below.refl _ _⟩
  · have d3 : (r == 0) = false := by simpa using h3
    clear hr1 h
    go_enter Try.func23, Try.ntmps23
    go_wp2
    all_goals
      go_ret2
      exact ⟨rfl, Below.refl _ _⟩
set_option linter.unusedSimpArgs false in
set_option linter.unusedVariables false in
set_option maxRecDepth 100000 in
set_option maxHeartbeats 2000000 in
theorem rof_any (a : Option Addr) (n c : Nat) (l : List Int) (s : Nat) (w : World) (hr : RdAt .u8 w a n c l) (hn : n ≤ 32768) (hs1 : 64 ≤ s) (hs2 : s ≤ 4096) (hm : n % s = 0) (hn0 : 0 < n) :
    Calls Try.prog 23 #[.slice a n c, .int .i64 s] w fun e w' => ∃ r, e = .returned (.tuple #[.pointer (some ⟨r, 0, none⟩), .int .i64 0]) ∧ RDk w' w.heap.size r (n / s) s l 0 ∧ Below w.heap.size w w' := by
  obtain ⟨q, hq⟩ : ∃ q, n / s = q := ⟨_, rfl⟩
  have m1 : Int.tmod (n : Int) (s : Int) = 0 := by rw [Int.tmod_eq_emod_of_nonneg (by omega)]; omega
  have m2 : Int.tdiv (n : Int) (s : Int) = (q : Int) := by rw [Int.tdiv_eq_ediv_of_nonneg (by omega), ← hq]; rfl
  have hqn : q ≤ n := by rw [← hq]; exact Nat.div_le_self _ _
  have m3 : IntKind.i64.wrap (q : Int) = q := by rw [IntKind.wrap_i64]; omega
  have d0 : decide ((s : Int) < 64) = false := decide_eq_false (by omega)
  have d1 : decide ((4096 : Int) < s) = false := decide_eq_false (by omega)
  have d2 : decide ((s : Int) = 0) = false := decide_eq_false (by omega)
  have hz0 : (s : Int) ≠ 0 := by omega
  have hs0 : ¬ s = 0 := by omega
  have d3 : decide ((65536 : Int) < q) = false := decide_eq_false (by omega)
  have d4 : ((n : Int) == 0) = false := by simp; omega
  have d5 : decide ((n : Int) = 0) = false := decide_eq_false (by omega)
  have hn00 : (n : Int) ≠ 0 := by omega
  rw [hq]
  obtain ⟨w0, hw0⟩ : ∃ w0 : World, w0 = w := ⟨_, rfl⟩
  have hrD : RdAt .u8 w.drew a n c l := hr.at0 rfl
  have hszD : w0.heap.size ≤ w.drew.heap.size := by rw [hw0]; exact Nat.le_refl _
  have hbD : Below w0.heap.size w0 w.drew := by rw [hw0]; exact ⟨rfl, rfl, rfl, Nat.le_refl _, fun _ _ => rfl⟩
  clear hq hm hr
  go_enter Try.func23, Try.ntmps23
  go_wp2_with fail
  all_goals
    refine' reg_order [eqV _, eqV _, eqV _, eqV _, eqV _, (fun v _ => ∃ q5, v = Value.slice (some ⟨q5, 0, none⟩) 0 0), eqV _, (PF7 w0.heap.size l), (fun v w => ∃ bv, v = Value.agg #[.int .i64 q, .int .i64 s, bv, .slice none 0 0, .bool false, .int .i64 0, .slice none 0 0, .int .i64 0, .int .i64 0] ∧ PF7 w0.heap.size l bv w), (fun v w => ∃ g, v = Value.pointer (some ⟨g, 0, none⟩) ∧ RDk w w0.heap.size g q s l 0), (fun v w => ∃ g, v = Value.pointer (some ⟨g, 0, none⟩) ∧ RDk w w0.heap.size g q s l 0), eqV _] [] [(7, fun w => RdAt .u8 w a n c l ∧ w0.heap.size ≤ w.heap.size), (9, fun w => w0.heap.size ≤ w.heap.size), (12, fun w => Below w0.heap.size w0 w)] [31, 32, 33, 34, 35, 36, 37, 38, 39, 40, 4, 5] [[], [0], [], [1, 2], [], [], [], [5, 6], [3, 4, 7], [8], [9], []] [0, 1, 2, 3, 4, 5, 6, 7, 8, 9, 10, 11] 12 (by kernel_rfl) ⟨eqV_stays _, eqV_stays _, eqV_stays _, eqV_stays _, eqV_stays _, fun _ _ _ p _ => p, eqV_stays _, fun _ _ _ p b => PF7.below p b, fun _ _ _ ⟨x, p, z⟩ b => ⟨x, p, PF7.below z b⟩, fun _ _ _ ⟨g, p, z⟩ b => ⟨g, p, z.below b⟩, fun _ _ _ ⟨g, p, z⟩ b => ⟨g, p, z.below b⟩, eqV_stays _, trivial⟩ trivial ⟨fun _ _ p b => ⟨p.1.below b, Nat.le_trans p.2 b.size⟩, fun _ _ p b => Nat.le_trans p b.size, fun _ _ p b => Below.call p b, trivial⟩ trivial ⟨⟨hrD, hszD⟩, hszD, hbD, trivial⟩ 41 rfl (by kernel_rfl) (by kernel_rfl) rfl rfl 12 rfl ?q1obl ?q1fin
    case q1obl =>
      refine And.intro ?q1o0 (And.intro ?q1o1 (And.intro ?q1o2 (And.intro ?q1o3 (And.intro ?q1o4 (And.intro ?q1o5 (And.intro ?q1o6 (And.intro ?q1o7 (And.intro ?q1o8 (And.intro ?q1o9 (And.intro ?q1o10 (And.intro ?q1o11 (True.intro))))))))))))
      case q1o0 =>
        intro w1 hI
        refine turn2_on (by rfl) ?_
        intro K hK
        go_simp
        refine hK _ _ ⟨rfl, Kept.refl _, ?_⟩
        show _ = _
        simp only [List.getD_cons_zero, List.getD_cons_succ, Array.getD_eq_getD_getElem?, List.getElem?_toArray, List.getElem?_cons_zero, List.getElem?_cons_succ, Option.getD_some]
        rfl
      case q1o1 =>
        intro w1 hI
        intro v0 h0
        change _ = _ at h0
        subst v0
        refine turn2_on (by rfl) ?_
        intro K hK
        simp only [List.getD_cons_zero, List.getD_cons_succ, List.setIfInBounds_toArray, List.set_cons_zero, List.set_cons_succ]
        go_simp
        refine hK _ _ ⟨rfl, Kept.refl _, ?_⟩
        show _ = _
        simp only [List.getD_cons_zero, List.getD_cons_succ, Array.getD_eq_getD_getElem?, List.getElem?_toArray, List.getElem?_cons_zero, List.getElem?_cons_succ, Option.getD_some]
        rfl
      case q1o2 =>
        intro w1 hI
        refine turn2_on (by rfl) ?_
        intro K hK
        go_simp
        refine hK _ _ ⟨rfl, Kept.refl _, ?_⟩
        show _ = _
        simp only [List.getD_cons_zero, List.getD_cons_succ, Array.getD_eq_getD_getElem?, List.getElem?_toArray, List.getElem?_cons_zero, List.getElem?_cons_succ, Option.getD_some]
        rfl
      case q1o3 =>
        intro w1 hI
        intro v1 h1
        change _ = _ at h1
        subst v1
        intro v2 h2
        change _ = _ at h2
        subst v2
        refine turn2_on (by rfl) ?_
        intro K hK
        simp only [List.getD_cons_zero, List.getD_cons_succ, List.setIfInBounds_toArray, List.set_cons_zero, List.set_cons_succ]
        go_simp
        refine hK _ _ ⟨rfl, Kept.refl _, ?_⟩
        show _ = _
        simp only [List.getD_cons_zero, List.getD_cons_succ, Array.getD_eq_getD_getElem?, List.getElem?_toArray, List.getElem?_cons_zero, List.getElem?_cons_succ, Option.getD_some]
        rfl
      case q1o4 =>
        intro w1 hI
        refine turn2_on (by rfl) ?_
        intro K hK
        go_simp
        refine hK _ _ ⟨rfl, Kept.refl _, ?_⟩
        show _ = _
        simp only [List.getD_cons_zero, List.getD_cons_succ, Array.getD_eq_getD_getElem?, List.getElem?_toArray, List.getElem?_cons_zero, List.getElem?_cons_succ, Option.getD_some]
        rfl
      case q1o5 =>
        intro w1 hI
        refine turn2_on (by rfl) ?_
        intro K hK
        go_simp
        refine hK _ _ ⟨rfl, Below.alloc (Below.refl _ _) (Nat.le_refl _) _, ?_⟩
        show ∃ q5, _ = Value.slice (some ⟨q5, 0, none⟩) 0 0
        simp only [List.getD_cons_zero, List.getD_cons_succ, Array.getD_eq_getD_getElem?, List.getElem?_toArray, List.getElem?_cons_zero, List.getElem?_cons_succ, Option.getD_some]
        exact ⟨_, rfl⟩
      case q1o6 =>
        intro w1 hI
        refine turn2_on (by rfl) ?_
        intro K hK
        go_simp
        refine hK _ _ ⟨rfl, Kept.refl _, ?_⟩
        show _ = _
        simp only [List.getD_cons_zero, List.getD_cons_succ, Array.getD_eq_getD_getElem?, List.getElem?_toArray, List.getElem?_cons_zero, List.getElem?_cons_succ, Option.getD_some]
        rfl
      case q1o7 =>
        intro w1 hI
        replace hI : (fun w => RdAt .u8 w a n c l ∧ w0.heap.size ≤ w.heap.size) w1 := hI
        intro v5 h5
        obtain ⟨q5, rfl⟩ := h5
        intro v6 h6
        change _ = _ at h6
        subst v6
        refine turn2_on (by rfl) ?_
        intro K hK
        simp only [List.getD_cons_zero, List.getD_cons_succ, List.setIfInBounds_toArray, List.set_cons_zero, List.set_cons_succ]
        obtain ⟨hI, hwz⟩ := hI
        refine wp_app_all 38 rfl u8T u8I (by decide) (.tmp 36) (.tmp 37) rfl _ w0.heap.size _ [] rfl (Owns.empty _ _ _ _ _ _) _ _ _ l rfl hI (by simp; omega) hwz ?_
        intro v2 w9 ho9 hg9
        refine hK _ _ ⟨rfl, hg9.fromNone, ?_⟩
        show PF7 _ _ _ _
        simp only [List.getD_cons_zero, List.getD_cons_succ, Array.getD_eq_getD_getElem?, List.getElem?_toArray, List.getElem?_cons_zero, List.getElem?_cons_succ, Option.getD_some]
        rw [List.nil_append] at ho9
        exact ho9
      case q1o8 =>
        intro w1 hI
        intro v3 h3
        change _ = _ at h3
        subst v3
        intro v4 h4
        change _ = _ at h4
        subst v4
        intro v7 h7
        obtain ⟨a7, c7, rfl⟩ := Owns.shape h7
        refine turn2_on (by rfl) ?_
        intro K hK
        simp only [List.getD_cons_zero, List.getD_cons_succ, List.setIfInBounds_toArray, List.set_cons_zero, List.set_cons_succ]
        go_simp
        refine hK _ _ ⟨rfl, Kept.refl _, ?_⟩
        show ∃ bv, _ = Value.agg _ ∧ PF7 _ _ bv _
        simp only [List.getD_cons_zero, List.getD_cons_succ, Array.getD_eq_getD_getElem?, List.getElem?_toArray, List.getElem?_cons_zero, List.getElem?_cons_succ, Option.getD_some]
        exact ⟨_, rfl, h7⟩
      case q1o9 =>
        intro w1 hI
        replace hI : (fun w => w0.heap.size ≤ w.heap.size) w1 := hI
        intro v8 h8
        obtain ⟨bv8, rfl, h8⟩ := h8
        obtain ⟨a8, c8, rfl⟩ := Owns.shape h8
        refine turn2_on (by rfl) ?_
        intro K hK
        simp only [List.getD_cons_zero, List.getD_cons_succ, List.setIfInBounds_toArray, List.set_cons_zero, List.set_cons_succ]
        go_simp
        refine hK _ _ ⟨rfl, Below.alloc (Below.refl _ _) (Nat.le_refl _) _, ?_⟩
        show ∃ g, _ = Value.pointer (some ⟨g, 0, none⟩) ∧ RDk _ _ g q s l 0
        simp only [List.getD_cons_zero, List.getD_cons_succ, Array.getD_eq_getD_getElem?, List.getElem?_toArray, List.getElem?_cons_zero, List.getElem?_cons_succ, Option.getD_some]
        exact ⟨w1.heap.size, rfl, ⟨_, heap_alloc_new _ _, Owns.alloc h8 _, fun e => Nat.lt_irrefl _ (Owns.at_base h8 _ e).2, hI⟩⟩
      case q1o10 =>
        intro w1 hI
        intro v9 h9
        obtain ⟨g9, rfl, h9⟩ := h9
        refine turn2_on (by rfl) ?_
        intro K hK
        simp only [List.getD_cons_zero, List.getD_cons_succ, List.setIfInBounds_toArray, List.set_cons_zero, List.set_cons_succ]
        go_simp
        refine hK _ _ ⟨rfl, Kept.refl _, ?_⟩
        show ∃ g, _ = Value.pointer (some ⟨g, 0, none⟩) ∧ RDk _ _ g q s l 0
        simp only [List.getD_cons_zero, List.getD_cons_succ, Array.getD_eq_getD_getElem?, List.getElem?_toArray, List.getElem?_cons_zero, List.getElem?_cons_succ, Option.getD_some]
        exact ⟨g9, rfl, h9⟩
      case q1o11 =>
        intro w1 hI
        refine turn2_on (by rfl) ?_
        intro K hK
        go_simp
        refine hK _ _ ⟨rfl, Kept.refl _, ?_⟩
        show _ = _
        simp only [List.getD_cons_zero, List.getD_cons_succ, Array.getD_eq_getD_getElem?, List.getElem?_toArray, List.getElem?_cons_zero, List.getElem?_cons_succ, Option.getD_some]
        rfl
    intro w1 hI
    replace hI : (fun w => Below w0.heap.size w0 w) w1 := hI
    intro v0 h0
    change _ = _ at h0
    subst v0
    intro v1 h1
    change _ = _ at h1
    subst v1
    intro v2 h2
    change _ = _ at h2
    subst v2
    intro v3 h3
    change _ = _ at h3
    subst v3
    intro v4 h4
    change _ = _ at h4
    subst v4
    intro v5 h5
    obtain ⟨q5, rfl⟩ := h5
    intro v6 h6
    change _ = _ at h6
    subst v6
    intro v7 h7
    obtain ⟨a7, c7, rfl⟩ := Owns.shape h7
    intro v8 h8
    obtain ⟨bv8, rfl, h8⟩ := h8
    obtain ⟨a8, c8, rfl⟩ := Owns.shape h8
    intro v9 h9
    obtain ⟨g9, rfl, h9⟩ := h9
    intro v10 h10
    obtain ⟨g10, rfl, h10⟩ := h10
    intro v11 h11
    change _ = _ at h11
    subst v11
    simp only [Given, List.getD_cons_zero, List.getD_cons_succ, List.setIfInBounds_toArray, List.set_cons_zero, List.set_cons_succ]
    rw [hw0] at hI h10
    go_wp2
    go_ret2
    exact ⟨g10, rfl, h10, hI⟩
set_option linter.unusedSimpArgs false in
set_option linter.unusedVariables false in
set_option maxRecDepth 100000 in
set_option maxHeartbeats 2000000 in
theorem rread_any (B r q s : Nat) (l : List Int) (rd x : Int) (w : World) (h : RDk w B r q s l rd) (hx1 : -9223372036854775808 ≤ x) (hx2 : x ≤ 9223372036854775807) (hs1 : 64 ≤ s) (hs2 : s ≤ 4096) (hl : l.length = q * s) (hln : l.length ≤ 268435456) (hq : q ≤ 65536) (hr0 : 0 ≤ rd) (hr1 : rd ≤ 1000000) :
    Calls Try.prog 42 #[.pointer (some ⟨r, 0, none⟩), .int .i64 x] w fun e w' => ∃ a n c, e = .returned (.tuple #[.slice a n c, .int .i64 (if 0 ≤ x ∧ x < q then 0 else 1)]) ∧ RdAt .u8 w' a n c (if 0 ≤ x ∧ x < q then chunk l s x.toNat else []) ∧ RDk w' B r q s l (if 0 ≤ x ∧ x < q then rd + 1 else rd) ∧ w.grownBy w' (some r) := by
  obtain ⟨bv, hrow, hown, hroom, hB⟩ := h
  have HROW := Lib.hid hrow
  have HOWN := Lib.hid hown
  obtain ⟨c0, c1, c2, c3, c4, c5, c6, c7, c8, cf⟩ := cellsD hrow
  by_cases hx0 : x < 0
  · have d0 : decide (x < 0) = true := decide_eq_true hx0
    rw [if_neg (by omega), if_neg (by omega), if_neg (by omega)]
    clear hrow hown
    go_enter Try.func42, Try.ntmps42
    go_wp2_with fail
    go_ret2
    exact ⟨_, _, _, rfl, RdAt.nil _ _, ⟨_, HROW.out, HOWN.out, hroom, hB⟩, World.grownBy.refl _ _⟩
  obtain ⟨k, rfl⟩ := Int.eq_ofNat_of_zero_le (show 0 ≤ x by omega)
  have d0 : decide ((k : Int) < 0) = false := decide_eq_false hx0
  by_cases hkq : k < q
  · rw [if_pos ⟨by omega, by omega⟩, if_pos ⟨by omega, by omega⟩, if_pos ⟨by omega, by omega⟩, Int.toNat_natCast]
    have d1 : decide ((q : Int) ≤ k) = false := decide_eq_false (by omega)
    have wr1 : IntKind.i64.wrap (rd + 1) = rd + 1 := by rw [IntKind.wrap_i64]; omega
    have hl0 : 0 < l.length := by
      rw [hl]
      exact Nat.mul_pos (by omega) (by omega)
    obtain ⟨g, c, hbv, hgr, hrg, hgB, hgl⟩ := hown.slc hl0
    obtain ⟨n, hn⟩ : ∃ n, l.length = n := ⟨_, rfl⟩
    rw [hn] at hbv hrg hl hln
    subst hbv
    obtain ⟨lo, hlo⟩ : ∃ lo, k * s = lo := ⟨_, rfl⟩
    obtain ⟨hi, hhi⟩ : ∃ hi, lo + s = hi := ⟨_, rfl⟩
    have hin : hi ≤ n := by
      rw [hl, ← hhi, ← hlo, ← Nat.succ_mul]
      exact Nat.mul_le_mul_right _ hkq
    have hcap := hrg.cap
    have g1 : (k : Int) * (s : Int) = (lo : Int) := by rw [← hlo, Int.natCast_mul]
    have g2 : IntKind.i64.wrap (lo : Int) = lo := by rw [IntKind.wrap_i64]; omega
    have g3 : IntKind.i64.wrap ((k : Int) + 1) = (k : Int) + 1 := by rw [IntKind.wrap_i64]; omega
    have g4 : ((k : Int) + 1) * (s : Int) = (hi : Int) := by rw [Int.add_mul, g1, ← hhi]; omega
    have g5 : IntKind.i64.wrap (hi : Int) = hi := by rw [IntKind.wrap_i64]; omega
    have g6 : hi - lo = s := by omega
    have g7 : ¬ c = lo := by omega
    have g8 : hi ≤ c := by omega
    have g9 : lo ≤ hi := by omega
    have g10 : ((hi : Int) ≤ c) := by omega
    have g11 : ((lo : Int) ≤ hi) := by omega
    have HRG := Lib.hid hrg
    have HLO := Lib.hid hlo
    have HHI := Lib.hid hhi
    have HIN := Lib.hid hin
    have hgne : g ≠ r := fun e => hroom (by rw [hgr, e])
    clear hrow hown hl hn hlo hhi hin hrg
    go_enter Try.func42, Try.ntmps42
    go_wp2_with fail
    obtain ⟨w1, hw1⟩ : ∃ w1, w.setCell ⟨r, 8, none⟩ (.int .i64 (rd + 1)) = w1 := ⟨_, rfl⟩
    have hrow1 : w1.heap[r]? = some (.cells #[.int .i64 q, .int .i64 s, .slice (some ⟨g, 0, none⟩) n c, .slice none 0 0, .bool false, .int .i64 0, .slice none 0 0, .int .i64 0, .int .i64 (rd + 1)] 61 (0, 0)) := by
      rw [← hw1, heap_setCell_same w r 8 _ _ _ HROW.out]; simp
    have hg1 : w.grownBy w1 (some r) := by rw [← hw1]; exact put_grown _ _ _ _
    rw [hw1]
    have HROW1 := Lib.hid hrow1
    have HG1 := Lib.hid hg1
    clear hw1 c0 c1 c2 c3 c4 c5 c6 c7 c8 cf
    obtain ⟨c0, c1, c2, c3, c4, c5, c6, c7, c8, cf⟩ := cellsD hrow1
    clear hrow1 hg1
    go_loopw [6] (fun i wr => i = .int .i64 (-1) ∧ Hid (wr = w1)) (fun _ _ => 0)
    case atStart => exact ⟨rfl, rfl⟩
    case round =>
      obtain ⟨rfl, hwr⟩ := hrel
      have hwr' := hwr.out
      subst hwr'
      go_wp2_with fail
      go_quiet (fail)
      go_wp2_with fail
      go_ret2
      refine ⟨_, _, _, rfl, ?_, ⟨_, HROW1.out, HOWN.out.grown (grownN HG1.out _) (fun x hx e => hroom (by rw [hx]; exact e)), hroom, hB⟩, grownN HG1.out _⟩
      have h5 := rd_chunk (HRG.out.grown HG1.out (fun x hx e => by injection hx with hx; subst hx; exact hgne (Option.some.inj e))) lo s (by have := HIN.out; have := HHI.out; omega)
      unfold chunk
      rw [HLO.out]
      rw [Nat.zero_add] at h5
      exact h5.at0 rfl
  · have d1 : decide ((q : Int) ≤ k) = true := decide_eq_true (by omega)
    rw [if_neg (by omega), if_neg (by omega), if_neg (by omega)]
    clear hrow hown
    go_enter Try.func42, Try.ntmps42
    go_wp2_with fail
    go_ret2
    exact ⟨_, _, _, rfl, RdAt.nil _ _, ⟨_, HROW.out, HOWN.out, hroom, hB⟩, World.grownBy.refl _ _⟩
end Go.Proofs.Ytpgncmoagmkcmaa
