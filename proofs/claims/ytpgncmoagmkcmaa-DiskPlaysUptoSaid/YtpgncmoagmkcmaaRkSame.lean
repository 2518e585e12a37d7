/- disk: a disk and the reference's look the same, whatever has become of them. -/
import Derived.Test.YtpgncmoagmkcmaaRkWany
import Derived.Test.YtpgncmoagmkcmaaStr
namespace Go.Proofs.Ytpgncmoagmkcmaa
open Go.RowKit
theorem RkIn.tnd {w w' : World} {Z Z' Zr : Nat → Prop} {r : Nat} {st : Dk} (h : RkIn w Zr r st) (t : Tnd Z Z' w w') (hd : ∀ k, Z k → Zr k → False) : RkIn w' Zr r st :=
  h.same (fun x hx => t.block x (h.1 x hx) (fun hz => hd x hz hx)) t.size
theorem DkIn.tnd {w w' : World} {Z Z' Zd : Nat → Prop} {d : Nat} {st : Dk} (h : DkIn w Zd d st) (t : Tnd Z Z' w w') (hd : ∀ k, Z k → Zd k → False) : DkIn w' Zd d st :=
  h.same (fun x hx => t.block x (h.1 x hx) (fun hz => hd x hz hx)) t.size
set_option linter.unusedSimpArgs false in
set_option linter.unusedVariables false in
set_option maxRecDepth 100000 in
set_option maxHeartbeats 4000000 in
theorem same2_any (Z Zr : Nat → Prop) (d r : Nat) (st : Dk) (x : Int) (w : World) (h : DkIn w Z d st) (hR : RkIn w Zr r st) (hdis : ∀ k, Z k → Zr k → False) (hx1 : -9223372036854775808 ≤ x) (hx2 : x ≤ 9223372036854775807) (hrd : st.reads + 1 ≤ 4611686018427387904) (X : Nat) (hX1 : ∀ k, Z k → X ≤ k) (hX2 : ∀ k, Zr k → X ≤ k) (hX3 : X ≤ w.heap.size) :
    Calls Try.prog 25 #[.pointer (some ⟨d, 0, none⟩), .pointer (some ⟨r, 0, none⟩), .int .i64 x] w fun e w' => e = .returned (.bool true) ∧ DkIn w' Z d (rdS st x) ∧ RkIn w' Zr r (rdS st x) ∧ Below X w w' := by
  obtain ⟨V, hV⟩ : ∃ V, rdV st x = V := ⟨_, rfl⟩
  obtain ⟨E, hE⟩ : ∃ E, rdE st x = E := ⟨_, rfl⟩
  obtain ⟨st1, hst1⟩ : ∃ st1, rdS st x = st1 := ⟨_, rfl⟩
  have HST := Lib.hid hst1
  have HV := Lib.hid hV
  have HE := Lib.hid hE
  have HR := Lib.hid hR
  have H := Lib.hid h
  have DIS := Lib.hid hdis
  rw [hst1]
  clear hst1 hV hE hR h hdis
  go_enter Try.func25, Try.ntmps25
  go_wp2_with fail
  refine (read_any Z d st x w H.out hx1 hx2 hrd).mono ?_
  rintro e w1 ⟨v1, rfl, ho1, hd1, ht1⟩
  rw [HE.out]
  rw [HST.out] at hd1
  rw [HV.out] at ho1
  obtain ⟨a1, n1, c1', hv1⟩ : ∃ a n c, v1 = Value.slice a n c := by obtain ⟨a, c, h⟩ := ho1.shape; exact ⟨a, _, c, h⟩
  subst hv1
  have hRd1 := HR.out.tnd ht1 DIS.out
  have D1 := Lib.hid hd1
  have T1 := Lib.hid ht1
  have RR1 := Lib.hid hRd1
  have O1 := Lib.hid ho1
  have hzr : ∀ k, Zr k → k < w.heap.size := HR.out.1
  clear ho1 hd1 ht1 hRd1
  go_wp2_with fail
  refine (rread_all Zr r st x w1 RR1.out hx1 hx2 hrd).mono ?_
  rintro e w2 ⟨a2, n2, c2', rfl, hrd2, hRd2, ht2⟩
  rw [HE.out]
  rw [HV.out] at hrd2
  rw [HST.out] at hRd2
  have hd2 : DkIn w2 Z d st1 := D1.out.tnd ht2 (fun k h1 h2 => DIS.out k h2 h1)
  have hrd1 : RdAt .u8 w2 a1 n1 c1' V := by
    have h1 := O1.out.rd
    by_cases hn : 0 < n1
    · refine h1.tnd ht2 (fun y hy hz => ?_)
      have h2 := hzr _ hz
      have hl : 0 < V.length := by rw [h1.len]; exact hn
      obtain ⟨g, c, e, _, _, hB, _⟩ := O1.out.slc hl
      injection e with e
      rw [hy] at e
      injection e with e
      rw [e] at h2
      have h3 : g < w.heap.size := h2
      omega
    · exact ⟨h1.len, h1.cap, h1.max, fun i hi => by omega, h1.wf, h1.void⟩
  have T2 := Lib.hid ht2
  obtain ⟨hzr2, bb, lv, rkv, rpvs, P2⟩ := hRd2
  obtain ⟨la, lc, hlv⟩ := owns_shape P2.prow
  subst hlv
  have HP2 := Lib.hid P2
  obtain ⟨w3, hw3⟩ : ∃ w3 : World, w3 = w2.drew := ⟨_, rfl⟩
  have hF := flat_len _ _ P2.ok.kept
  have hsz := P2.ok.size
  have hnk := P2.ok.n
  have hFb : st1.kept.flatten.length ≤ 268435456 := by
    rw [hF]
    exact Nat.le_trans (Nat.mul_le_mul hnk.2 hsz.2) (by omega)
  have hrA : RdAt .u8 w2.drew a1 n1 c1' V := hrd1.at0 rfl
  have hrB : RdAt .u8 w2.drew a2 n2 c2' V := hrd2.at0 rfl
  have hdD : DkIn w2.drew Z d st1 := hd2.same (fun _ _ => rfl) (Nat.le_refl _)
  obtain ⟨F, hFF⟩ : ∃ F, st1.kept.flatten.length = F := ⟨_, rfl⟩
  have hrR : w2.drew.heap[r]? = some (.cells #[.int .i64 st1.kept.length, .int .i64 st1.size, .slice (some ⟨bb, 0, none⟩) F F, .slice la st1.pend.length lc, .bool st1.off, .int .i64 st1.armed, rkv, .int .i64 st1.writes, .int .i64 st1.reads] 61 (0, 0)) := by rw [← hFF]; exact P2.row
  have hrC : RdAt .u8 w2.drew (some ⟨bb, 0, none⟩) F F st1.kept.flatten := ⟨hFF, Nat.le_refl _, by unfold maxLen; omega, fun i hi0 => ⟨bb, 0, rfl, by have hi : i < st1.kept.flatten.length := (by omega); rw [Nat.zero_add, cell_of_row w2.drew _ _ _ _ _ P2.brow]; show ((st1.kept.flatten.map (Value.int .u8)).toArray)[i]? = some (.int .u8 (nth st1.kept.flatten i)); rw [List.getElem?_toArray, List.getElem?_map, List.getElem?_eq_getElem hi, nth_eq hi]; rfl⟩, P2.bwf, fun h => by cases h⟩
  have hB3 : Kept w3 w2.drew := by rw [hw3]; exact Kept.refl _
  have HD2 := Lib.hid hd2
  have HZR := Lib.hid hzr2
  clear hrd1 hrd2 hd2 ht2 P2 hzr hF hzr2 hFF hFb
  go_wp2_with fail
  refine' reg_order [eqV _, eqV _, eqV _, eqV _, eqV _, eqV _, eqV _, eqV _, eqV _, eqV _, eqV _, eqV _, eqV _, eqV _, eqV _, eqV _, eqV _, eqV _, eqV _, eqV _, eqV _, eqV _, eqV _, eqV _, eqV _, eqV _, eqV _, eqV _, eqV _, eqV _, eqV _, eqV _, eqV _, eqV _, eqV _, eqV _, eqV _, eqV _, eqV _, eqV _, eqV _, eqV _, eqV _, eqV _, eqV _, eqV _, eqV _, eqV _, eqV _, eqV _, eqV _, isBytes (st1.kept.flatten), eqV _, eqV _, eqV _, eqV _, eqV _, eqV _, eqV _, eqV _, eqV _] [] [(1, fun w => RdAt .u8 w a1 n1 c1' V), (3, fun w => RdAt .u8 w a2 n2 c2' V), (14, fun w => DkIn w Z d st1), (18, fun w => w.heap[r]? = some (.cells #[.int .i64 st1.kept.length, .int .i64 st1.size, .slice (some ⟨bb, 0, none⟩) F F, .slice la st1.pend.length lc, .bool st1.off, .int .i64 st1.armed, rkv, .int .i64 st1.writes, .int .i64 st1.reads] 61 (0, 0))), (23, fun w => DkIn w Z d st1), (27, fun w => w.heap[r]? = some (.cells #[.int .i64 st1.kept.length, .int .i64 st1.size, .slice (some ⟨bb, 0, none⟩) F F, .slice la st1.pend.length lc, .bool st1.off, .int .i64 st1.armed, rkv, .int .i64 st1.writes, .int .i64 st1.reads] 61 (0, 0))), (33, fun w => DkIn w Z d st1), (37, fun w => w.heap[r]? = some (.cells #[.int .i64 st1.kept.length, .int .i64 st1.size, .slice (some ⟨bb, 0, none⟩) F F, .slice la st1.pend.length lc, .bool st1.off, .int .i64 st1.armed, rkv, .int .i64 st1.writes, .int .i64 st1.reads] 61 (0, 0))), (42, fun w => DkIn w Z d st1), (46, fun w => w.heap[r]? = some (.cells #[.int .i64 st1.kept.length, .int .i64 st1.size, .slice (some ⟨bb, 0, none⟩) F F, .slice la st1.pend.length lc, .bool st1.off, .int .i64 st1.armed, rkv, .int .i64 st1.writes, .int .i64 st1.reads] 61 (0, 0))), (51, fun w => DkIn w Z d st1), (56, fun w => w.heap[r]? = some (.cells #[.int .i64 st1.kept.length, .int .i64 st1.size, .slice (some ⟨bb, 0, none⟩) F F, .slice la st1.pend.length lc, .bool st1.off, .int .i64 st1.armed, rkv, .int .i64 st1.writes, .int .i64 st1.reads] 61 (0, 0))), (57, fun w => RdAt .u8 w (some ⟨bb, 0, none⟩) F F st1.kept.flatten), (61, fun w => Kept w3 w)] [23, 24, 25, 26, 27, 28, 29, 30, 31, 32, 33, 34, 35, 36, 37, 38, 39, 40, 41, 42, 43, 44, 45, 46, 47, 48, 49, 50, 51, 52, 53, 54, 55, 56, 57, 58, 59, 60, 61, 62, 63, 64, 65, 66, 67, 68, 69, 70, 71, 72, 73, 74, 75, 76, 77, 78, 79, 80, 81, 82, 6] [[], [0], [], [2], [1, 3], [4], [5], [5], [5, 6, 7], [5, 8], [9], [10], [10, 11], [10, 12], [10, 13], [10], [10, 15], [10, 16], [10, 17], [10, 14, 18], [10, 19], [20], [21], [21, 22], [21], [21, 24], [21, 25], [21, 26], [21, 27], [21, 23, 28], [21, 29], [30], [31], [31, 32], [31], [31, 34], [31, 35], [31, 36], [31, 33, 37], [31, 38], [39], [40], [40, 41], [40], [40, 43], [40, 44], [40, 45], [40, 42, 46], [40, 47], [48], [49], [49, 50], [49, 51], [49], [49, 53], [49, 54], [49, 55], [49, 56], [49, 52, 57], [49, 58], [59]] [0, 1, 2, 3, 4, 5, 6, 7, 8, 9, 10, 11, 12, 13, 14, 15, 16, 17, 18, 19, 20, 21, 22, 23, 24, 25, 26, 27, 28, 29, 30, 31, 32, 33, 34, 35, 36, 37, 38, 39, 40, 41, 42, 43, 44, 45, 46, 47, 48, 49, 50, 51, 52, 53, 54, 55, 56, 57, 58, 59, 60] 61 (by kernel_rfl) ⟨eqV_stays _, eqV_stays _, eqV_stays _, eqV_stays _, eqV_stays _, eqV_stays _, eqV_stays _, eqV_stays _, eqV_stays _, eqV_stays _, eqV_stays _, eqV_stays _, eqV_stays _, eqV_stays _, eqV_stays _, eqV_stays _, eqV_stays _, eqV_stays _, eqV_stays _, eqV_stays _, eqV_stays _, eqV_stays _, eqV_stays _, eqV_stays _, eqV_stays _, eqV_stays _, eqV_stays _, eqV_stays _, eqV_stays _, eqV_stays _, eqV_stays _, eqV_stays _, eqV_stays _, eqV_stays _, eqV_stays _, eqV_stays _, eqV_stays _, eqV_stays _, eqV_stays _, eqV_stays _, eqV_stays _, eqV_stays _, eqV_stays _, eqV_stays _, eqV_stays _, eqV_stays _, eqV_stays _, eqV_stays _, eqV_stays _, eqV_stays _, eqV_stays _, isBytes_stays _, eqV_stays _, eqV_stays _, eqV_stays _, eqV_stays _, eqV_stays _, eqV_stays _, eqV_stays _, eqV_stays _, eqV_stays _, trivial⟩ trivial ⟨fun _ _ p b => RdAt.below p b, fun _ _ p b => RdAt.below p b, fun _ _ p b => DkIn.below p b, fun _ _ p b => row_keep p b, fun _ _ p b => DkIn.below p b, fun _ _ p b => row_keep p b, fun _ _ p b => DkIn.below p b, fun _ _ p b => row_keep p b, fun _ _ p b => DkIn.below p b, fun _ _ p b => row_keep p b, fun _ _ p b => DkIn.below p b, fun _ _ p b => row_keep p b, fun _ _ p b => RdAt.below p b, fun _ _ p b => Below.call p b, trivial⟩ trivial ⟨hrA, hrB, hdD, hrR, hdD, hrR, hdD, hrR, hdD, hrR, hdD, hrR, hrC, hB3, trivial⟩ 83 rfl (by kernel_rfl) (by kernel_rfl) rfl rfl 61 rfl ?q1obl ?q1fin
  case q1obl =>
    refine And.intro ?q1o0 (And.intro ?q1o1 (And.intro ?q1o2 (And.intro ?q1o3 (And.intro ?q1o4 (And.intro ?q1o5 (And.intro ?q1o6 (And.intro ?q1o7 (And.intro ?q1o8 (And.intro ?q1o9 (And.intro ?q1o10 (And.intro ?q1o11 (And.intro ?q1o12 (And.intro ?q1o13 (And.intro ?q1o14 (And.intro ?q1o15 (And.intro ?q1o16 (And.intro ?q1o17 (And.intro ?q1o18 (And.intro ?q1o19 (And.intro ?q1o20 (And.intro ?q1o21 (And.intro ?q1o22 (And.intro ?q1o23 (And.intro ?q1o24 (And.intro ?q1o25 (And.intro ?q1o26 (And.intro ?q1o27 (And.intro ?q1o28 (And.intro ?q1o29 (And.intro ?q1o30 (And.intro ?q1o31 (And.intro ?q1o32 (And.intro ?q1o33 (And.intro ?q1o34 (And.intro ?q1o35 (And.intro ?q1o36 (And.intro ?q1o37 (And.intro ?q1o38 (And.intro ?q1o39 (And.intro ?q1o40 (And.intro ?q1o41 (And.intro ?q1o42 (And.intro ?q1o43 (And.intro ?q1o44 (And.intro ?q1o45 (And.intro ?q1o46 (And.intro ?q1o47 (And.intro ?q1o48 (And.intro ?q1o49 (And.intro ?q1o50 (And.intro ?q1o51 (And.intro ?q1o52 (And.intro ?q1o53 (And.intro ?q1o54 (And.intro ?q1o55 (And.intro ?q1o56 (And.intro ?q1o57 (And.intro ?q1o58 (And.intro ?q1o59 (And.intro ?q1o60 (True.intro)))))))))))))))))))))))))))))))))))))))))))))))))))))))))))))
    case q1o0 =>
      intro w1 hI
      refine turn2_on (by rfl) ?_
      intro K hK
      go_simp
      refine hK _ _ ⟨rfl, Kept.refl _, ?_⟩
      show _ = _
      simp only [List.getD_cons_zero, List.getD_cons_succ, Array.getD_eq_getD_getElem?, List.getElem?_toArray, List.getElem?_cons_zero, List.getElem?_cons_succ, Option.getD_some]
      rfl
    case q1o1 =>
      intro w1 hI
      replace hI : (fun w => RdAt .u8 w a1 n1 c1' V) w1 := hI
      intro v0 h0
      change _ = _ at h0
      subst v0
      refine turn2_on (by rfl) ?_
      intro K hK
      simp only [List.getD_cons_zero, List.getD_cons_succ, List.setIfInBounds_toArray, List.set_cons_zero, List.set_cons_succ]
      refine wp_conv 24 rfl u8T s8 su _ rfl rfl (hI) ?_
      refine hK _ _ ⟨rfl, Kept.refl _, ?_⟩
      show _ = _
      simp only [List.getD_cons_zero, List.getD_cons_succ, Array.getD_eq_getD_getElem?, List.getElem?_toArray, List.getElem?_cons_zero, List.getElem?_cons_succ, Option.getD_some]
      rfl
    case q1o2 =>
      intro w1 hI
      refine turn2_on (by rfl) ?_
      intro K hK
      go_simp
      refine hK _ _ ⟨rfl, Kept.refl _, ?_⟩
      show _ = _
      simp only [List.getD_cons_zero, List.getD_cons_succ, Array.getD_eq_getD_getElem?, List.getElem?_toArray, List.getElem?_cons_zero, List.getElem?_cons_succ, Option.getD_some]
      rfl
    case q1o3 =>
      intro w1 hI
      replace hI : (fun w => RdAt .u8 w a2 n2 c2' V) w1 := hI
      intro v2 h2
      change _ = _ at h2
      subst v2
      refine turn2_on (by rfl) ?_
      intro K hK
      simp only [List.getD_cons_zero, List.getD_cons_succ, List.setIfInBounds_toArray, List.set_cons_zero, List.set_cons_succ]
      refine wp_conv 26 rfl u8T s8 su _ rfl rfl (hI) ?_
      refine hK _ _ ⟨rfl, Kept.refl _, ?_⟩
      show _ = _
      simp only [List.getD_cons_zero, List.getD_cons_succ, Array.getD_eq_getD_getElem?, List.getElem?_toArray, List.getElem?_cons_zero, List.getElem?_cons_succ, Option.getD_some]
      rfl
    case q1o4 =>
      intro w1 hI
      intro v1 h1
      change _ = _ at h1
      subst v1
      intro v3 h3
      change _ = _ at h3
      subst v3
      refine turn2_on (by rfl) ?_
      intro K hK
      simp only [List.getD_cons_zero, List.getD_cons_succ, List.setIfInBounds_toArray, List.set_cons_zero, List.set_cons_succ]
      go_simp
      refine hK _ _ ⟨rfl, Kept.refl _, ?_⟩
      show _ = _
      simp only [List.getD_cons_zero, List.getD_cons_succ, Array.getD_eq_getD_getElem?, List.getElem?_toArray, List.getElem?_cons_zero, List.getElem?_cons_succ, Option.getD_some]
      rfl
    case q1o5 =>
      intro w1 hI
      intro v4 h4
      change _ = _ at h4
      subst v4
      refine turn2_on (by rfl) ?_
      intro K hK
      simp only [List.getD_cons_zero, List.getD_cons_succ, List.setIfInBounds_toArray, List.set_cons_zero, List.set_cons_succ]
      go_simp
      refine hK _ _ ⟨rfl, Kept.refl _, ?_⟩
      show _ = _
      simp only [List.getD_cons_zero, List.getD_cons_succ, Array.getD_eq_getD_getElem?, List.getElem?_toArray, List.getElem?_cons_zero, List.getElem?_cons_succ, Option.getD_some]
      rfl
    case q1o6 =>
      intro w1 hI
      intro v5 h5
      change _ = _ at h5
      subst v5
      refine turn2_on (by rfl) ?_
      intro K hK
      simp only [List.getD_cons_zero, List.getD_cons_succ, List.setIfInBounds_toArray, List.set_cons_zero, List.set_cons_succ]
      go_simp
      refine hK _ _ ⟨rfl, Kept.refl _, ?_⟩
      show _ = _
      simp only [List.getD_cons_zero, List.getD_cons_succ, Array.getD_eq_getD_getElem?, List.getElem?_toArray, List.getElem?_cons_zero, List.getElem?_cons_succ, Option.getD_some]
      rfl
    case q1o7 =>
      intro w1 hI
      intro v5 h5
      change _ = _ at h5
      subst v5
      refine turn2_on (by rfl) ?_
      intro K hK
      simp only [List.getD_cons_zero, List.getD_cons_succ, List.setIfInBounds_toArray, List.set_cons_zero, List.set_cons_succ]
      go_simp
      refine hK _ _ ⟨rfl, Kept.refl _, ?_⟩
      show _ = _
      simp only [List.getD_cons_zero, List.getD_cons_succ, Array.getD_eq_getD_getElem?, List.getElem?_toArray, List.getElem?_cons_zero, List.getElem?_cons_succ, Option.getD_some]
      rfl
    case q1o8 =>
      intro w1 hI
      intro v5 h5
      change _ = _ at h5
      subst v5
      intro v6 h6
      change _ = _ at h6
      subst v6
      intro v7 h7
      change _ = _ at h7
      subst v7
      refine turn2_on (by rfl) ?_
      intro K hK
      simp only [List.getD_cons_zero, List.getD_cons_succ, List.setIfInBounds_toArray, List.set_cons_zero, List.set_cons_succ]
      go_simp
      refine hK _ _ ⟨rfl, Kept.refl _, ?_⟩
      show _ = _
      simp only [List.getD_cons_zero, List.getD_cons_succ, Array.getD_eq_getD_getElem?, List.getElem?_toArray, List.getElem?_cons_zero, List.getElem?_cons_succ, Option.getD_some]
      rfl
    case q1o9 =>
      intro w1 hI
      intro v5 h5
      change _ = _ at h5
      subst v5
      intro v8 h8
      change _ = _ at h8
      subst v8
      refine turn2_on (by rfl) ?_
      intro K hK
      simp only [List.getD_cons_zero, List.getD_cons_succ, List.setIfInBounds_toArray, List.set_cons_zero, List.set_cons_succ]
      go_simp
      refine hK _ _ ⟨rfl, Kept.refl _, ?_⟩
      show _ = _
      simp only [List.getD_cons_zero, List.getD_cons_succ, Array.getD_eq_getD_getElem?, List.getElem?_toArray, List.getElem?_cons_zero, List.getElem?_cons_succ, Option.getD_some]
      rfl
    case q1o10 =>
      intro w1 hI
      intro v9 h9
      change _ = _ at h9
      subst v9
      refine turn2_on (by rfl) ?_
      intro K hK
      simp only [List.getD_cons_zero, List.getD_cons_succ, List.setIfInBounds_toArray, List.set_cons_zero, List.set_cons_succ]
      go_simp
      refine hK _ _ ⟨rfl, Kept.refl _, ?_⟩
      show _ = _
      simp only [List.getD_cons_zero, List.getD_cons_succ, Array.getD_eq_getD_getElem?, List.getElem?_toArray, List.getElem?_cons_zero, List.getElem?_cons_succ, Option.getD_some]
      rfl
    case q1o11 =>
      intro w1 hI
      intro v10 h10
      change _ = _ at h10
      subst v10
      refine turn2_on (by rfl) ?_
      intro K hK
      simp only [List.getD_cons_zero, List.getD_cons_succ, List.setIfInBounds_toArray, List.set_cons_zero, List.set_cons_succ]
      go_simp
      refine hK _ _ ⟨rfl, Kept.refl _, ?_⟩
      show _ = _
      simp only [List.getD_cons_zero, List.getD_cons_succ, Array.getD_eq_getD_getElem?, List.getElem?_toArray, List.getElem?_cons_zero, List.getElem?_cons_succ, Option.getD_some]
      rfl
    case q1o12 =>
      intro w1 hI
      intro v10 h10
      change _ = _ at h10
      subst v10
      intro v11 h11
      change _ = _ at h11
      subst v11
      refine turn2_on (by rfl) ?_
      intro K hK
      simp only [List.getD_cons_zero, List.getD_cons_succ, List.setIfInBounds_toArray, List.set_cons_zero, List.set_cons_succ]
      go_simp
      refine hK _ _ ⟨rfl, Kept.refl _, ?_⟩
      show _ = _
      simp only [List.getD_cons_zero, List.getD_cons_succ, Array.getD_eq_getD_getElem?, List.getElem?_toArray, List.getElem?_cons_zero, List.getElem?_cons_succ, Option.getD_some]
      rfl
    case q1o13 =>
      intro w1 hI
      intro v10 h10
      change _ = _ at h10
      subst v10
      intro v12 h12
      change _ = _ at h12
      subst v12
      refine turn2_on (by rfl) ?_
      intro K hK
      simp only [List.getD_cons_zero, List.getD_cons_succ, List.setIfInBounds_toArray, List.set_cons_zero, List.set_cons_succ]
      go_simp
      refine hK _ _ ⟨rfl, Kept.refl _, ?_⟩
      show _ = _
      simp only [List.getD_cons_zero, List.getD_cons_succ, Array.getD_eq_getD_getElem?, List.getElem?_toArray, List.getElem?_cons_zero, List.getElem?_cons_succ, Option.getD_some]
      rfl
    case q1o14 =>
      intro w1 hI
      replace hI : (fun w => DkIn w Z d st1) w1 := hI
      intro v10 h10
      change _ = _ at h10
      subst v10
      intro v13 h13
      change _ = _ at h13
      subst v13
      refine turn2_on (by rfl) ?_
      intro K hK
      simp only [List.getD_cons_zero, List.getD_cons_succ, List.setIfInBounds_toArray, List.set_cons_zero, List.set_cons_succ]
      go_simp
      refine Calls.mono (off_any Z d st1 w1 hI) ?_
      rintro e w2 ⟨rfl, rfl⟩
      refine hK _ _ ⟨rfl, Kept.refl _, ?_⟩
      show _ = _
      simp only [List.getD_cons_zero, List.getD_cons_succ, Array.getD_eq_getD_getElem?, List.getElem?_toArray, List.getElem?_cons_zero, List.getElem?_cons_succ, Option.getD_some]
      rfl
    case q1o15 =>
      intro w1 hI
      intro v10 h10
      change _ = _ at h10
      subst v10
      refine turn2_on (by rfl) ?_
      intro K hK
      simp only [List.getD_cons_zero, List.getD_cons_succ, List.setIfInBounds_toArray, List.set_cons_zero, List.set_cons_succ]
      go_simp
      refine hK _ _ ⟨rfl, Kept.refl _, ?_⟩
      show _ = _
      simp only [List.getD_cons_zero, List.getD_cons_succ, Array.getD_eq_getD_getElem?, List.getElem?_toArray, List.getElem?_cons_zero, List.getElem?_cons_succ, Option.getD_some]
      rfl
    case q1o16 =>
      intro w1 hI
      intro v10 h10
      change _ = _ at h10
      subst v10
      intro v15 h15
      change _ = _ at h15
      subst v15
      refine turn2_on (by rfl) ?_
      intro K hK
      simp only [List.getD_cons_zero, List.getD_cons_succ, List.setIfInBounds_toArray, List.set_cons_zero, List.set_cons_succ]
      go_simp
      refine hK _ _ ⟨rfl, Kept.refl _, ?_⟩
      show _ = _
      simp only [List.getD_cons_zero, List.getD_cons_succ, Array.getD_eq_getD_getElem?, List.getElem?_toArray, List.getElem?_cons_zero, List.getElem?_cons_succ, Option.getD_some]
      rfl
    case q1o17 =>
      intro w1 hI
      intro v10 h10
      change _ = _ at h10
      subst v10
      intro v16 h16
      change _ = _ at h16
      subst v16
      refine turn2_on (by rfl) ?_
      intro K hK
      simp only [List.getD_cons_zero, List.getD_cons_succ, List.setIfInBounds_toArray, List.set_cons_zero, List.set_cons_succ]
      go_simp
      refine hK _ _ ⟨rfl, Kept.refl _, ?_⟩
      show _ = _
      simp only [List.getD_cons_zero, List.getD_cons_succ, Array.getD_eq_getD_getElem?, List.getElem?_toArray, List.getElem?_cons_zero, List.getElem?_cons_succ, Option.getD_some]
      rfl
    case q1o18 =>
      intro w1 hI
      replace hI : (fun w => w.heap[r]? = some (.cells #[.int .i64 st1.kept.length, .int .i64 st1.size, .slice (some ⟨bb, 0, none⟩) F F, .slice la st1.pend.length lc, .bool st1.off, .int .i64 st1.armed, rkv, .int .i64 st1.writes, .int .i64 st1.reads] 61 (0, 0))) w1 := hI
      intro v10 h10
      change _ = _ at h10
      subst v10
      intro v17 h17
      change _ = _ at h17
      subst v17
      refine turn2_on (by rfl) ?_
      intro K hK
      simp only [List.getD_cons_zero, List.getD_cons_succ, List.setIfInBounds_toArray, List.set_cons_zero, List.set_cons_succ]
      obtain ⟨c0, c1, c2, c3, c4, c5, c6, c7, c8, cf⟩ := cellsD hI
      go_simp
      refine hK _ _ ⟨rfl, Kept.refl _, ?_⟩
      show _ = _
      simp only [List.getD_cons_zero, List.getD_cons_succ, Array.getD_eq_getD_getElem?, List.getElem?_toArray, List.getElem?_cons_zero, List.getElem?_cons_succ, Option.getD_some]
      rfl
    case q1o19 =>
      intro w1 hI
      intro v10 h10
      change _ = _ at h10
      subst v10
      intro v14 h14
      change _ = _ at h14
      subst v14
      intro v18 h18
      change _ = _ at h18
      subst v18
      refine turn2_on (by rfl) ?_
      intro K hK
      simp only [List.getD_cons_zero, List.getD_cons_succ, List.setIfInBounds_toArray, List.set_cons_zero, List.set_cons_succ]
      go_simp
      refine hK _ _ ⟨rfl, Kept.refl _, ?_⟩
      show _ = _
      simp only [List.getD_cons_zero, List.getD_cons_succ, Array.getD_eq_getD_getElem?, List.getElem?_toArray, List.getElem?_cons_zero, List.getElem?_cons_succ, Option.getD_some]
      rfl
    case q1o20 =>
      intro w1 hI
      intro v10 h10
      change _ = _ at h10
      subst v10
      intro v19 h19
      change _ = _ at h19
      subst v19
      refine turn2_on (by rfl) ?_
      intro K hK
      simp only [List.getD_cons_zero, List.getD_cons_succ, List.setIfInBounds_toArray, List.set_cons_zero, List.set_cons_succ]
      go_simp
      refine hK _ _ ⟨rfl, Kept.refl _, ?_⟩
      show _ = _
      simp only [List.getD_cons_zero, List.getD_cons_succ, Array.getD_eq_getD_getElem?, List.getElem?_toArray, List.getElem?_cons_zero, List.getElem?_cons_succ, Option.getD_some]
      rfl
    case q1o21 =>
      intro w1 hI
      intro v20 h20
      change _ = _ at h20
      subst v20
      refine turn2_on (by rfl) ?_
      intro K hK
      simp only [List.getD_cons_zero, List.getD_cons_succ, List.setIfInBounds_toArray, List.set_cons_zero, List.set_cons_succ]
      go_simp
      refine hK _ _ ⟨rfl, Kept.refl _, ?_⟩
      show _ = _
      simp only [List.getD_cons_zero, List.getD_cons_succ, Array.getD_eq_getD_getElem?, List.getElem?_toArray, List.getElem?_cons_zero, List.getElem?_cons_succ, Option.getD_some]
      rfl
    case q1o22 =>
      intro w1 hI
      intro v21 h21
      change _ = _ at h21
      subst v21
      refine turn2_on (by rfl) ?_
      intro K hK
      simp only [List.getD_cons_zero, List.getD_cons_succ, List.setIfInBounds_toArray, List.set_cons_zero, List.set_cons_succ]
      go_simp
      refine hK _ _ ⟨rfl, Kept.refl _, ?_⟩
      show _ = _
      simp only [List.getD_cons_zero, List.getD_cons_succ, Array.getD_eq_getD_getElem?, List.getElem?_toArray, List.getElem?_cons_zero, List.getElem?_cons_succ, Option.getD_some]
      rfl
    case q1o23 =>
      intro w1 hI
      replace hI : (fun w => DkIn w Z d st1) w1 := hI
      intro v21 h21
      change _ = _ at h21
      subst v21
      intro v22 h22
      change _ = _ at h22
      subst v22
      refine turn2_on (by rfl) ?_
      intro K hK
      simp only [List.getD_cons_zero, List.getD_cons_succ, List.setIfInBounds_toArray, List.set_cons_zero, List.set_cons_succ]
      go_simp
      refine Calls.mono (pending_any Z d st1 w1 hI) ?_
      rintro e w2 ⟨rfl, rfl⟩
      refine hK _ _ ⟨rfl, Kept.refl _, ?_⟩
      show _ = _
      simp only [List.getD_cons_zero, List.getD_cons_succ, Array.getD_eq_getD_getElem?, List.getElem?_toArray, List.getElem?_cons_zero, List.getElem?_cons_succ, Option.getD_some]
      rfl
    case q1o24 =>
      intro w1 hI
      intro v21 h21
      change _ = _ at h21
      subst v21
      refine turn2_on (by rfl) ?_
      intro K hK
      simp only [List.getD_cons_zero, List.getD_cons_succ, List.setIfInBounds_toArray, List.set_cons_zero, List.set_cons_succ]
      go_simp
      refine hK _ _ ⟨rfl, Kept.refl _, ?_⟩
      show _ = _
      simp only [List.getD_cons_zero, List.getD_cons_succ, Array.getD_eq_getD_getElem?, List.getElem?_toArray, List.getElem?_cons_zero, List.getElem?_cons_succ, Option.getD_some]
      rfl
    case q1o25 =>
      intro w1 hI
      intro v21 h21
      change _ = _ at h21
      subst v21
      intro v24 h24
      change _ = _ at h24
      subst v24
      refine turn2_on (by rfl) ?_
      intro K hK
      simp only [List.getD_cons_zero, List.getD_cons_succ, List.setIfInBounds_toArray, List.set_cons_zero, List.set_cons_succ]
      go_simp
      refine hK _ _ ⟨rfl, Kept.refl _, ?_⟩
      show _ = _
      simp only [List.getD_cons_zero, List.getD_cons_succ, Array.getD_eq_getD_getElem?, List.getElem?_toArray, List.getElem?_cons_zero, List.getElem?_cons_succ, Option.getD_some]
      rfl
    case q1o26 =>
      intro w1 hI
      intro v21 h21
      change _ = _ at h21
      subst v21
      intro v25 h25
      change _ = _ at h25
      subst v25
      refine turn2_on (by rfl) ?_
      intro K hK
      simp only [List.getD_cons_zero, List.getD_cons_succ, List.setIfInBounds_toArray, List.set_cons_zero, List.set_cons_succ]
      go_simp
      refine hK _ _ ⟨rfl, Kept.refl _, ?_⟩
      show _ = _
      simp only [List.getD_cons_zero, List.getD_cons_succ, Array.getD_eq_getD_getElem?, List.getElem?_toArray, List.getElem?_cons_zero, List.getElem?_cons_succ, Option.getD_some]
      rfl
    case q1o27 =>
      intro w1 hI
      replace hI : (fun w => w.heap[r]? = some (.cells #[.int .i64 st1.kept.length, .int .i64 st1.size, .slice (some ⟨bb, 0, none⟩) F F, .slice la st1.pend.length lc, .bool st1.off, .int .i64 st1.armed, rkv, .int .i64 st1.writes, .int .i64 st1.reads] 61 (0, 0))) w1 := hI
      intro v21 h21
      change _ = _ at h21
      subst v21
      intro v26 h26
      change _ = _ at h26
      subst v26
      refine turn2_on (by rfl) ?_
      intro K hK
      simp only [List.getD_cons_zero, List.getD_cons_succ, List.setIfInBounds_toArray, List.set_cons_zero, List.set_cons_succ]
      obtain ⟨c0, c1, c2, c3, c4, c5, c6, c7, c8, cf⟩ := cellsD hI
      go_simp
      refine hK _ _ ⟨rfl, Kept.refl _, ?_⟩
      show _ = _
      simp only [List.getD_cons_zero, List.getD_cons_succ, Array.getD_eq_getD_getElem?, List.getElem?_toArray, List.getElem?_cons_zero, List.getElem?_cons_succ, Option.getD_some]
      rfl
    case q1o28 =>
      intro w1 hI
      intro v21 h21
      change _ = _ at h21
      subst v21
      intro v27 h27
      change _ = _ at h27
      subst v27
      refine turn2_on (by rfl) ?_
      intro K hK
      simp only [List.getD_cons_zero, List.getD_cons_succ, List.setIfInBounds_toArray, List.set_cons_zero, List.set_cons_succ]
      go_simp
      refine hK _ _ ⟨rfl, Kept.refl _, ?_⟩
      show _ = _
      simp only [List.getD_cons_zero, List.getD_cons_succ, Array.getD_eq_getD_getElem?, List.getElem?_toArray, List.getElem?_cons_zero, List.getElem?_cons_succ, Option.getD_some]
      rfl
    case q1o29 =>
      intro w1 hI
      intro v21 h21
      change _ = _ at h21
      subst v21
      intro v23 h23
      change _ = _ at h23
      subst v23
      intro v28 h28
      change _ = _ at h28
      subst v28
      refine turn2_on (by rfl) ?_
      intro K hK
      simp only [List.getD_cons_zero, List.getD_cons_succ, List.setIfInBounds_toArray, List.set_cons_zero, List.set_cons_succ]
      go_simp
      refine hK _ _ ⟨rfl, Kept.refl _, ?_⟩
      show _ = _
      simp only [List.getD_cons_zero, List.getD_cons_succ, Array.getD_eq_getD_getElem?, List.getElem?_toArray, List.getElem?_cons_zero, List.getElem?_cons_succ, Option.getD_some]
      rfl
    case q1o30 =>
      intro w1 hI
      intro v21 h21
      change _ = _ at h21
      subst v21
      intro v29 h29
      change _ = _ at h29
      subst v29
      refine turn2_on (by rfl) ?_
      intro K hK
      simp only [List.getD_cons_zero, List.getD_cons_succ, List.setIfInBounds_toArray, List.set_cons_zero, List.set_cons_succ]
      go_simp
      refine hK _ _ ⟨rfl, Kept.refl _, ?_⟩
      show _ = _
      simp only [List.getD_cons_zero, List.getD_cons_succ, Array.getD_eq_getD_getElem?, List.getElem?_toArray, List.getElem?_cons_zero, List.getElem?_cons_succ, Option.getD_some]
      rfl
    case q1o31 =>
      intro w1 hI
      intro v30 h30
      change _ = _ at h30
      subst v30
      refine turn2_on (by rfl) ?_
      intro K hK
      simp only [List.getD_cons_zero, List.getD_cons_succ, List.setIfInBounds_toArray, List.set_cons_zero, List.set_cons_succ]
      go_simp
      refine hK _ _ ⟨rfl, Kept.refl _, ?_⟩
      show _ = _
      simp only [List.getD_cons_zero, List.getD_cons_succ, Array.getD_eq_getD_getElem?, List.getElem?_toArray, List.getElem?_cons_zero, List.getElem?_cons_succ, Option.getD_some]
      rfl
    case q1o32 =>
      intro w1 hI
      intro v31 h31
      change _ = _ at h31
      subst v31
      refine turn2_on (by rfl) ?_
      intro K hK
      simp only [List.getD_cons_zero, List.getD_cons_succ, List.setIfInBounds_toArray, List.set_cons_zero, List.set_cons_succ]
      go_simp
      refine hK _ _ ⟨rfl, Kept.refl _, ?_⟩
      show _ = _
      simp only [List.getD_cons_zero, List.getD_cons_succ, Array.getD_eq_getD_getElem?, List.getElem?_toArray, List.getElem?_cons_zero, List.getElem?_cons_succ, Option.getD_some]
      rfl
    case q1o33 =>
      intro w1 hI
      replace hI : (fun w => DkIn w Z d st1) w1 := hI
      intro v31 h31
      change _ = _ at h31
      subst v31
      intro v32 h32
      change _ = _ at h32
      subst v32
      refine turn2_on (by rfl) ?_
      intro K hK
      simp only [List.getD_cons_zero, List.getD_cons_succ, List.setIfInBounds_toArray, List.set_cons_zero, List.set_cons_succ]
      go_simp
      refine Calls.mono (writes_any Z d st1 w1 hI) ?_
      rintro e w2 ⟨rfl, rfl⟩
      refine hK _ _ ⟨rfl, Kept.refl _, ?_⟩
      show _ = _
      simp only [List.getD_cons_zero, List.getD_cons_succ, Array.getD_eq_getD_getElem?, List.getElem?_toArray, List.getElem?_cons_zero, List.getElem?_cons_succ, Option.getD_some]
      rfl
    case q1o34 =>
      intro w1 hI
      intro v31 h31
      change _ = _ at h31
      subst v31
      refine turn2_on (by rfl) ?_
      intro K hK
      simp only [List.getD_cons_zero, List.getD_cons_succ, List.setIfInBounds_toArray, List.set_cons_zero, List.set_cons_succ]
      go_simp
      refine hK _ _ ⟨rfl, Kept.refl _, ?_⟩
      show _ = _
      simp only [List.getD_cons_zero, List.getD_cons_succ, Array.getD_eq_getD_getElem?, List.getElem?_toArray, List.getElem?_cons_zero, List.getElem?_cons_succ, Option.getD_some]
      rfl
    case q1o35 =>
      intro w1 hI
      intro v31 h31
      change _ = _ at h31
      subst v31
      intro v34 h34
      change _ = _ at h34
      subst v34
      refine turn2_on (by rfl) ?_
      intro K hK
      simp only [List.getD_cons_zero, List.getD_cons_succ, List.setIfInBounds_toArray, List.set_cons_zero, List.set_cons_succ]
      go_simp
      refine hK _ _ ⟨rfl, Kept.refl _, ?_⟩
      show _ = _
      simp only [List.getD_cons_zero, List.getD_cons_succ, Array.getD_eq_getD_getElem?, List.getElem?_toArray, List.getElem?_cons_zero, List.getElem?_cons_succ, Option.getD_some]
      rfl
    case q1o36 =>
      intro w1 hI
      intro v31 h31
      change _ = _ at h31
      subst v31
      intro v35 h35
      change _ = _ at h35
      subst v35
      refine turn2_on (by rfl) ?_
      intro K hK
      simp only [List.getD_cons_zero, List.getD_cons_succ, List.setIfInBounds_toArray, List.set_cons_zero, List.set_cons_succ]
      go_simp
      refine hK _ _ ⟨rfl, Kept.refl _, ?_⟩
      show _ = _
      simp only [List.getD_cons_zero, List.getD_cons_succ, Array.getD_eq_getD_getElem?, List.getElem?_toArray, List.getElem?_cons_zero, List.getElem?_cons_succ, Option.getD_some]
      rfl
    case q1o37 =>
      intro w1 hI
      replace hI : (fun w => w.heap[r]? = some (.cells #[.int .i64 st1.kept.length, .int .i64 st1.size, .slice (some ⟨bb, 0, none⟩) F F, .slice la st1.pend.length lc, .bool st1.off, .int .i64 st1.armed, rkv, .int .i64 st1.writes, .int .i64 st1.reads] 61 (0, 0))) w1 := hI
      intro v31 h31
      change _ = _ at h31
      subst v31
      intro v36 h36
      change _ = _ at h36
      subst v36
      refine turn2_on (by rfl) ?_
      intro K hK
      simp only [List.getD_cons_zero, List.getD_cons_succ, List.setIfInBounds_toArray, List.set_cons_zero, List.set_cons_succ]
      obtain ⟨c0, c1, c2, c3, c4, c5, c6, c7, c8, cf⟩ := cellsD hI
      go_simp
      refine hK _ _ ⟨rfl, Kept.refl _, ?_⟩
      show _ = _
      simp only [List.getD_cons_zero, List.getD_cons_succ, Array.getD_eq_getD_getElem?, List.getElem?_toArray, List.getElem?_cons_zero, List.getElem?_cons_succ, Option.getD_some]
      rfl
    case q1o38 =>
      intro w1 hI
      intro v31 h31
      change _ = _ at h31
      subst v31
      intro v33 h33
      change _ = _ at h33
      subst v33
      intro v37 h37
      change _ = _ at h37
      subst v37
      refine turn2_on (by rfl) ?_
      intro K hK
      simp only [List.getD_cons_zero, List.getD_cons_succ, List.setIfInBounds_toArray, List.set_cons_zero, List.set_cons_succ]
      go_simp
      refine hK _ _ ⟨rfl, Kept.refl _, ?_⟩
      show _ = _
      simp only [List.getD_cons_zero, List.getD_cons_succ, Array.getD_eq_getD_getElem?, List.getElem?_toArray, List.getElem?_cons_zero, List.getElem?_cons_succ, Option.getD_some]
      rfl
    case q1o39 =>
      intro w1 hI
      intro v31 h31
      change _ = _ at h31
      subst v31
      intro v38 h38
      change _ = _ at h38
      subst v38
      refine turn2_on (by rfl) ?_
      intro K hK
      simp only [List.getD_cons_zero, List.getD_cons_succ, List.setIfInBounds_toArray, List.set_cons_zero, List.set_cons_succ]
      go_simp
      refine hK _ _ ⟨rfl, Kept.refl _, ?_⟩
      show _ = _
      simp only [List.getD_cons_zero, List.getD_cons_succ, Array.getD_eq_getD_getElem?, List.getElem?_toArray, List.getElem?_cons_zero, List.getElem?_cons_succ, Option.getD_some]
      rfl
    case q1o40 =>
      intro w1 hI
      intro v39 h39
      change _ = _ at h39
      subst v39
      refine turn2_on (by rfl) ?_
      intro K hK
      simp only [List.getD_cons_zero, List.getD_cons_succ, List.setIfInBounds_toArray, List.set_cons_zero, List.set_cons_succ]
      go_simp
      refine hK _ _ ⟨rfl, Kept.refl _, ?_⟩
      show _ = _
      simp only [List.getD_cons_zero, List.getD_cons_succ, Array.getD_eq_getD_getElem?, List.getElem?_toArray, List.getElem?_cons_zero, List.getElem?_cons_succ, Option.getD_some]
      rfl
    case q1o41 =>
      intro w1 hI
      intro v40 h40
      change _ = _ at h40
      subst v40
      refine turn2_on (by rfl) ?_
      intro K hK
      simp only [List.getD_cons_zero, List.getD_cons_succ, List.setIfInBounds_toArray, List.set_cons_zero, List.set_cons_succ]
      go_simp
      refine hK _ _ ⟨rfl, Kept.refl _, ?_⟩
      show _ = _
      simp only [List.getD_cons_zero, List.getD_cons_succ, Array.getD_eq_getD_getElem?, List.getElem?_toArray, List.getElem?_cons_zero, List.getElem?_cons_succ, Option.getD_some]
      rfl
    case q1o42 =>
      intro w1 hI
      replace hI : (fun w => DkIn w Z d st1) w1 := hI
      intro v40 h40
      change _ = _ at h40
      subst v40
      intro v41 h41
      change _ = _ at h41
      subst v41
      refine turn2_on (by rfl) ?_
      intro K hK
      simp only [List.getD_cons_zero, List.getD_cons_succ, List.setIfInBounds_toArray, List.set_cons_zero, List.set_cons_succ]
      go_simp
      refine Calls.mono (reads_any Z d st1 w1 hI) ?_
      rintro e w2 ⟨rfl, rfl⟩
      refine hK _ _ ⟨rfl, Kept.refl _, ?_⟩
      show _ = _
      simp only [List.getD_cons_zero, List.getD_cons_succ, Array.getD_eq_getD_getElem?, List.getElem?_toArray, List.getElem?_cons_zero, List.getElem?_cons_succ, Option.getD_some]
      rfl
    case q1o43 =>
      intro w1 hI
      intro v40 h40
      change _ = _ at h40
      subst v40
      refine turn2_on (by rfl) ?_
      intro K hK
      simp only [List.getD_cons_zero, List.getD_cons_succ, List.setIfInBounds_toArray, List.set_cons_zero, List.set_cons_succ]
      go_simp
      refine hK _ _ ⟨rfl, Kept.refl _, ?_⟩
      show _ = _
      simp only [List.getD_cons_zero, List.getD_cons_succ, Array.getD_eq_getD_getElem?, List.getElem?_toArray, List.getElem?_cons_zero, List.getElem?_cons_succ, Option.getD_some]
      rfl
    case q1o44 =>
      intro w1 hI
      intro v40 h40
      change _ = _ at h40
      subst v40
      intro v43 h43
      change _ = _ at h43
      subst v43
      refine turn2_on (by rfl) ?_
      intro K hK
      simp only [List.getD_cons_zero, List.getD_cons_succ, List.setIfInBounds_toArray, List.set_cons_zero, List.set_cons_succ]
      go_simp
      refine hK _ _ ⟨rfl, Kept.refl _, ?_⟩
      show _ = _
      simp only [List.getD_cons_zero, List.getD_cons_succ, Array.getD_eq_getD_getElem?, List.getElem?_toArray, List.getElem?_cons_zero, List.getElem?_cons_succ, Option.getD_some]
      rfl
    case q1o45 =>
      intro w1 hI
      intro v40 h40
      change _ = _ at h40
      subst v40
      intro v44 h44
      change _ = _ at h44
      subst v44
      refine turn2_on (by rfl) ?_
      intro K hK
      simp only [List.getD_cons_zero, List.getD_cons_succ, List.setIfInBounds_toArray, List.set_cons_zero, List.set_cons_succ]
      go_simp
      refine hK _ _ ⟨rfl, Kept.refl _, ?_⟩
      show _ = _
      simp only [List.getD_cons_zero, List.getD_cons_succ, Array.getD_eq_getD_getElem?, List.getElem?_toArray, List.getElem?_cons_zero, List.getElem?_cons_succ, Option.getD_some]
      rfl
    case q1o46 =>
      intro w1 hI
      replace hI : (fun w => w.heap[r]? = some (.cells #[.int .i64 st1.kept.length, .int .i64 st1.size, .slice (some ⟨bb, 0, none⟩) F F, .slice la st1.pend.length lc, .bool st1.off, .int .i64 st1.armed, rkv, .int .i64 st1.writes, .int .i64 st1.reads] 61 (0, 0))) w1 := hI
      intro v40 h40
      change _ = _ at h40
      subst v40
      intro v45 h45
      change _ = _ at h45
      subst v45
      refine turn2_on (by rfl) ?_
      intro K hK
      simp only [List.getD_cons_zero, List.getD_cons_succ, List.setIfInBounds_toArray, List.set_cons_zero, List.set_cons_succ]
      obtain ⟨c0, c1, c2, c3, c4, c5, c6, c7, c8, cf⟩ := cellsD hI
      go_simp
      refine hK _ _ ⟨rfl, Kept.refl _, ?_⟩
      show _ = _
      simp only [List.getD_cons_zero, List.getD_cons_succ, Array.getD_eq_getD_getElem?, List.getElem?_toArray, List.getElem?_cons_zero, List.getElem?_cons_succ, Option.getD_some]
      rfl
    case q1o47 =>
      intro w1 hI
      intro v40 h40
      change _ = _ at h40
      subst v40
      intro v42 h42
      change _ = _ at h42
      subst v42
      intro v46 h46
      change _ = _ at h46
      subst v46
      refine turn2_on (by rfl) ?_
      intro K hK
      simp only [List.getD_cons_zero, List.getD_cons_succ, List.setIfInBounds_toArray, List.set_cons_zero, List.set_cons_succ]
      go_simp
      refine hK _ _ ⟨rfl, Kept.refl _, ?_⟩
      show _ = _
      simp only [List.getD_cons_zero, List.getD_cons_succ, Array.getD_eq_getD_getElem?, List.getElem?_toArray, List.getElem?_cons_zero, List.getElem?_cons_succ, Option.getD_some]
      rfl
    case q1o48 =>
      intro w1 hI
      intro v40 h40
      change _ = _ at h40
      subst v40
      intro v47 h47
      change _ = _ at h47
      subst v47
      refine turn2_on (by rfl) ?_
      intro K hK
      simp only [List.getD_cons_zero, List.getD_cons_succ, List.setIfInBounds_toArray, List.set_cons_zero, List.set_cons_succ]
      go_simp
      refine hK _ _ ⟨rfl, Kept.refl _, ?_⟩
      show _ = _
      simp only [List.getD_cons_zero, List.getD_cons_succ, Array.getD_eq_getD_getElem?, List.getElem?_toArray, List.getElem?_cons_zero, List.getElem?_cons_succ, Option.getD_some]
      rfl
    case q1o49 =>
      intro w1 hI
      intro v48 h48
      change _ = _ at h48
      subst v48
      refine turn2_on (by rfl) ?_
      intro K hK
      simp only [List.getD_cons_zero, List.getD_cons_succ, List.setIfInBounds_toArray, List.set_cons_zero, List.set_cons_succ]
      go_simp
      refine hK _ _ ⟨rfl, Kept.refl _, ?_⟩
      show _ = _
      simp only [List.getD_cons_zero, List.getD_cons_succ, Array.getD_eq_getD_getElem?, List.getElem?_toArray, List.getElem?_cons_zero, List.getElem?_cons_succ, Option.getD_some]
      rfl
    case q1o50 =>
      intro w1 hI
      intro v49 h49
      change _ = _ at h49
      subst v49
      refine turn2_on (by rfl) ?_
      intro K hK
      simp only [List.getD_cons_zero, List.getD_cons_succ, List.setIfInBounds_toArray, List.set_cons_zero, List.set_cons_succ]
      go_simp
      refine hK _ _ ⟨rfl, Kept.refl _, ?_⟩
      show _ = _
      simp only [List.getD_cons_zero, List.getD_cons_succ, Array.getD_eq_getD_getElem?, List.getElem?_toArray, List.getElem?_cons_zero, List.getElem?_cons_succ, Option.getD_some]
      rfl
    case q1o51 =>
      intro w1 hI
      replace hI : (fun w => DkIn w Z d st1) w1 := hI
      intro v49 h49
      change _ = _ at h49
      subst v49
      intro v50 h50
      change _ = _ at h50
      subst v50
      refine turn2_on (by rfl) ?_
      intro K hK
      simp only [List.getD_cons_zero, List.getD_cons_succ, List.setIfInBounds_toArray, List.set_cons_zero, List.set_cons_succ]
      go_simp
      refine Calls.mono (all_any Z d st1 w1 hI) ?_
      rintro e w2 ⟨vv, rfl, hov, hbx⟩
      refine hK _ _ ⟨rfl, hbx, ?_⟩
      show isBytes _ _ _
      simp only [List.getD_cons_zero, List.getD_cons_succ, Array.getD_eq_getD_getElem?, List.getElem?_toArray, List.getElem?_cons_zero, List.getElem?_cons_succ, Option.getD_some]
      exact hov.isBytes
    case q1o52 =>
      intro w1 hI
      intro v49 h49
      change _ = _ at h49
      subst v49
      intro v51 h51
      obtain ⟨a51, n51, c51, rfl, h51⟩ := h51
      refine turn2_on (by rfl) ?_
      intro K hK
      simp only [List.getD_cons_zero, List.getD_cons_succ, List.setIfInBounds_toArray, List.set_cons_zero, List.set_cons_succ]
      refine wp_conv 75 rfl u8T s8 su _ rfl rfl (h51) ?_
      refine hK _ _ ⟨rfl, Kept.refl _, ?_⟩
      show _ = _
      simp only [List.getD_cons_zero, List.getD_cons_succ, Array.getD_eq_getD_getElem?, List.getElem?_toArray, List.getElem?_cons_zero, List.getElem?_cons_succ, Option.getD_some]
      rfl
    case q1o53 =>
      intro w1 hI
      intro v49 h49
      change _ = _ at h49
      subst v49
      refine turn2_on (by rfl) ?_
      intro K hK
      simp only [List.getD_cons_zero, List.getD_cons_succ, List.setIfInBounds_toArray, List.set_cons_zero, List.set_cons_succ]
      go_simp
      refine hK _ _ ⟨rfl, Kept.refl _, ?_⟩
      show _ = _
      simp only [List.getD_cons_zero, List.getD_cons_succ, Array.getD_eq_getD_getElem?, List.getElem?_toArray, List.getElem?_cons_zero, List.getElem?_cons_succ, Option.getD_some]
      rfl
    case q1o54 =>
      intro w1 hI
      intro v49 h49
      change _ = _ at h49
      subst v49
      intro v53 h53
      change _ = _ at h53
      subst v53
      refine turn2_on (by rfl) ?_
      intro K hK
      simp only [List.getD_cons_zero, List.getD_cons_succ, List.setIfInBounds_toArray, List.set_cons_zero, List.set_cons_succ]
      go_simp
      refine hK _ _ ⟨rfl, Kept.refl _, ?_⟩
      show _ = _
      simp only [List.getD_cons_zero, List.getD_cons_succ, Array.getD_eq_getD_getElem?, List.getElem?_toArray, List.getElem?_cons_zero, List.getElem?_cons_succ, Option.getD_some]
      rfl
    case q1o55 =>
      intro w1 hI
      intro v49 h49
      change _ = _ at h49
      subst v49
      intro v54 h54
      change _ = _ at h54
      subst v54
      refine turn2_on (by rfl) ?_
      intro K hK
      simp only [List.getD_cons_zero, List.getD_cons_succ, List.setIfInBounds_toArray, List.set_cons_zero, List.set_cons_succ]
      go_simp
      refine hK _ _ ⟨rfl, Kept.refl _, ?_⟩
      show _ = _
      simp only [List.getD_cons_zero, List.getD_cons_succ, Array.getD_eq_getD_getElem?, List.getElem?_toArray, List.getElem?_cons_zero, List.getElem?_cons_succ, Option.getD_some]
      rfl
    case q1o56 =>
      intro w1 hI
      replace hI : (fun w => w.heap[r]? = some (.cells #[.int .i64 st1.kept.length, .int .i64 st1.size, .slice (some ⟨bb, 0, none⟩) F F, .slice la st1.pend.length lc, .bool st1.off, .int .i64 st1.armed, rkv, .int .i64 st1.writes, .int .i64 st1.reads] 61 (0, 0))) w1 := hI
      intro v49 h49
      change _ = _ at h49
      subst v49
      intro v55 h55
      change _ = _ at h55
      subst v55
      refine turn2_on (by rfl) ?_
      intro K hK
      simp only [List.getD_cons_zero, List.getD_cons_succ, List.setIfInBounds_toArray, List.set_cons_zero, List.set_cons_succ]
      obtain ⟨c0, c1, c2, c3, c4, c5, c6, c7, c8, cf⟩ := cellsD hI
      go_simp
      refine hK _ _ ⟨rfl, Kept.refl _, ?_⟩
      show _ = _
      simp only [List.getD_cons_zero, List.getD_cons_succ, Array.getD_eq_getD_getElem?, List.getElem?_toArray, List.getElem?_cons_zero, List.getElem?_cons_succ, Option.getD_some]
      rfl
    case q1o57 =>
      intro w1 hI
      replace hI : (fun w => RdAt .u8 w (some ⟨bb, 0, none⟩) F F st1.kept.flatten) w1 := hI
      intro v49 h49
      change _ = _ at h49
      subst v49
      intro v56 h56
      change _ = _ at h56
      subst v56
      refine turn2_on (by rfl) ?_
      intro K hK
      simp only [List.getD_cons_zero, List.getD_cons_succ, List.setIfInBounds_toArray, List.set_cons_zero, List.set_cons_succ]
      refine wp_conv 80 rfl u8T s8 su _ rfl rfl (hI) ?_
      refine hK _ _ ⟨rfl, Kept.refl _, ?_⟩
      show _ = _
      simp only [List.getD_cons_zero, List.getD_cons_succ, Array.getD_eq_getD_getElem?, List.getElem?_toArray, List.getElem?_cons_zero, List.getElem?_cons_succ, Option.getD_some]
      rfl
    case q1o58 =>
      intro w1 hI
      intro v49 h49
      change _ = _ at h49
      subst v49
      intro v52 h52
      change _ = _ at h52
      subst v52
      intro v57 h57
      change _ = _ at h57
      subst v57
      refine turn2_on (by rfl) ?_
      intro K hK
      simp only [List.getD_cons_zero, List.getD_cons_succ, List.setIfInBounds_toArray, List.set_cons_zero, List.set_cons_succ]
      go_simp
      refine hK _ _ ⟨rfl, Kept.refl _, ?_⟩
      show _ = _
      simp only [List.getD_cons_zero, List.getD_cons_succ, Array.getD_eq_getD_getElem?, List.getElem?_toArray, List.getElem?_cons_zero, List.getElem?_cons_succ, Option.getD_some]
      rfl
    case q1o59 =>
      intro w1 hI
      intro v49 h49
      change _ = _ at h49
      subst v49
      intro v58 h58
      change _ = _ at h58
      subst v58
      refine turn2_on (by rfl) ?_
      intro K hK
      simp only [List.getD_cons_zero, List.getD_cons_succ, List.setIfInBounds_toArray, List.set_cons_zero, List.set_cons_succ]
      go_simp
      refine hK _ _ ⟨rfl, Kept.refl _, ?_⟩
      show _ = _
      simp only [List.getD_cons_zero, List.getD_cons_succ, Array.getD_eq_getD_getElem?, List.getElem?_toArray, List.getElem?_cons_zero, List.getElem?_cons_succ, Option.getD_some]
      rfl
    case q1o60 =>
      intro w1 hI
      intro v59 h59
      change _ = _ at h59
      subst v59
      refine turn2_on (by rfl) ?_
      intro K hK
      simp only [List.getD_cons_zero, List.getD_cons_succ, List.setIfInBounds_toArray, List.set_cons_zero, List.set_cons_succ]
      go_simp
      refine hK _ _ ⟨rfl, Kept.refl _, ?_⟩
      show _ = _
      simp only [List.getD_cons_zero, List.getD_cons_succ, Array.getD_eq_getD_getElem?, List.getElem?_toArray, List.getElem?_cons_zero, List.getElem?_cons_succ, Option.getD_some]
      rfl
  intro w1 hI
  replace hI : (fun w => Kept w3 w) w1 := hI
  intro v0 h0
  change _ = _ at h0
  subst v0
  intro v1 h1
  change _ = _ at h1
  subst v1
  intro v2 h2
  change _ = _ at h2
  subst v2
  intro v3 h3
  change _ = _ at h3
  subst v3
  intro v4 h4
  change _ = _ at h4
  subst v4
  intro v5 h5
  change _ = _ at h5
  subst v5
  intro v6 h6
  change _ = _ at h6
  subst v6
  intro v7 h7
  change _ = _ at h7
  subst v7
  intro v8 h8
  change _ = _ at h8
  subst v8
  intro v9 h9
  change _ = _ at h9
  subst v9
  intro v10 h10
  change _ = _ at h10
  subst v10
  intro v11 h11
  change _ = _ at h11
  subst v11
  intro v12 h12
  change _ = _ at h12
  subst v12
  intro v13 h13
  change _ = _ at h13
  subst v13
  intro v14 h14
  change _ = _ at h14
  subst v14
  intro v15 h15
  change _ = _ at h15
  subst v15
  intro v16 h16
  change _ = _ at h16
  subst v16
  intro v17 h17
  change _ = _ at h17
  subst v17
  intro v18 h18
  change _ = _ at h18
  subst v18
  intro v19 h19
  change _ = _ at h19
  subst v19
  intro v20 h20
  change _ = _ at h20
  subst v20
  intro v21 h21
  change _ = _ at h21
  subst v21
  intro v22 h22
  change _ = _ at h22
  subst v22
  intro v23 h23
  change _ = _ at h23
  subst v23
  intro v24 h24
  change _ = _ at h24
  subst v24
  intro v25 h25
  change _ = _ at h25
  subst v25
  intro v26 h26
  change _ = _ at h26
  subst v26
  intro v27 h27
  change _ = _ at h27
  subst v27
  intro v28 h28
  change _ = _ at h28
  subst v28
  intro v29 h29
  change _ = _ at h29
  subst v29
  intro v30 h30
  change _ = _ at h30
  subst v30
  intro v31 h31
  change _ = _ at h31
  subst v31
  intro v32 h32
  change _ = _ at h32
  subst v32
  intro v33 h33
  change _ = _ at h33
  subst v33
  intro v34 h34
  change _ = _ at h34
  subst v34
  intro v35 h35
  change _ = _ at h35
  subst v35
  intro v36 h36
  change _ = _ at h36
  subst v36
  intro v37 h37
  change _ = _ at h37
  subst v37
  intro v38 h38
  change _ = _ at h38
  subst v38
  intro v39 h39
  change _ = _ at h39
  subst v39
  intro v40 h40
  change _ = _ at h40
  subst v40
  intro v41 h41
  change _ = _ at h41
  subst v41
  intro v42 h42
  change _ = _ at h42
  subst v42
  intro v43 h43
  change _ = _ at h43
  subst v43
  intro v44 h44
  change _ = _ at h44
  subst v44
  intro v45 h45
  change _ = _ at h45
  subst v45
  intro v46 h46
  change _ = _ at h46
  subst v46
  intro v47 h47
  change _ = _ at h47
  subst v47
  intro v48 h48
  change _ = _ at h48
  subst v48
  intro v49 h49
  change _ = _ at h49
  subst v49
  intro v50 h50
  change _ = _ at h50
  subst v50
  intro v51 h51
  obtain ⟨a51, n51, c51, rfl, h51⟩ := h51
  intro v52 h52
  change _ = _ at h52
  subst v52
  intro v53 h53
  change _ = _ at h53
  subst v53
  intro v54 h54
  change _ = _ at h54
  subst v54
  intro v55 h55
  change _ = _ at h55
  subst v55
  intro v56 h56
  change _ = _ at h56
  subst v56
  intro v57 h57
  change _ = _ at h57
  subst v57
  intro v58 h58
  change _ = _ at h58
  subst v58
  intro v59 h59
  change _ = _ at h59
  subst v59
  intro v60 h60
  change _ = _ at h60
  subst v60
  simp only [Given, List.getD_cons_zero, List.getD_cons_succ, List.setIfInBounds_toArray, List.set_cons_zero, List.set_cons_succ]
  subst hw3
  have hb5 : Below w2.heap.size w2 w1 := ⟨hI.os, hI.tape, hI.output, hI.size, hI.block⟩
  have HB5 := Lib.hid hb5
  clear hI hb5
  go_wp2_with fail
  go_ret
  have hT1 := T1.out.below hX1 hX3
  have hX4 := Nat.le_trans hX3 T1.out.size
  have hT2 := T2.out.below hX2 hX4
  exact ⟨rfl, HD2.out.below HB5.out, RkIn.below ⟨HZR.out, _, _, _, _, HP2.out⟩ HB5.out, (hT1.trans hT2).trans (HB5.out.mono (Nat.le_trans hX4 T2.out.size))⟩
end Go.Proofs.Ytpgncmoagmkcmaa
