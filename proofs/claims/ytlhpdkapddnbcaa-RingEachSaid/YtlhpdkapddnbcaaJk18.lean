/- ring: a play opened again. ring: a play cut, and opened again. ring: a row of slices of bytes appended to an empty one; one more. -/
import Derived.Test.YtlhpdkapddnbcaaJk0
import Derived.Deep.CutBlock
import Derived.Deep.DeepCutAuto
import Derived.Test.YtlhpdkapddnbcaaJk17
import Derived.Maps.AppendAt
namespace Go.Proofs.Ytlhpdkapddnbcaa
open Go.RowKit
set_option linter.unusedSimpArgs false in
set_option linter.unusedVariables false in
set_option maxRecDepth 100000 in
set_option maxHeartbeats 4000000 in
theorem wopen_any (C : PlC) (OK : C.Ok) (w0 w : World) (Z : Nat → Prop) (i : Nat) (st : Dk) (h : Hd) (L : List (List Int)) (V : PlV) (p : PlD C w0 w Z i st h L V) (hi : i ≤ 999) (hf : V.f = h.first) (hM : V.M = L) :
    Calls Try.prog 26 #[.pointer (some ⟨C.g, 0, none⟩)] w fun e w' => e = .returned (.bool true) ∧ PlS C w0 w' (i + 1) L := by
  obtain ⟨rv, lv, mv, may, ma, f, M⟩ := V
  obtain rfl : f = h.first := hf
  obtain rfl : M = L := hM
  obtain ⟨a, m, c, e1, e2⟩ := p.rows
  obtain rfl : lv = .slice a m c := e1
  have hm60 : m ≤ 60 := by rw [← e2.len]; exact p.len60 OK
  have HLEN : Hid (m = M.length) := e2.len.symm
  have HNX := Lib.hid p.H.next
  have HN0 := Lib.hid p.H.hv.wf
  have hn4 := OK.n4
  have hn60 := OK.n60
  obtain ⟨y0, y1, y2, y3, y4, y5, y6, y7, y8, yf⟩ := plcells p.row
  have P0 := Lib.hid p
  have HL60 : Hid (M.length ≤ 60) := p.len60 OK
  clear p e2
  go_enter Try.func26, Try.ntmps26
  go_wp2_with fail
  clear y0 y1 y2 y3 y4 y5 y6 y7 y8 yf
  refine P0.out.on.mono ?_
  rintro e w1 ⟨rfl, hp1⟩
  obtain ⟨y0, y1, y2, y3, y4, y5, y6, y7, y8, yf⟩ := plcells hp1.row
  have P1 := Lib.hid hp1
  clear hp1
  go_wp2_with fail
  clear y0 y1 y2 y3 y4 y5 y6 y7 y8 yf
  refine (P1.out.arm 1099511627776 none 0 0 [] ⟨rfl, Nat.le_refl _, by unfold maxLen; omega, fun i hi => by omega, fun _ => rfl⟩ (by omega) (by omega) (by omega)).mono ?_
  rintro e w2 ⟨rfl, Z2, hp2⟩
  obtain ⟨ST, hST⟩ : ∃ ST, armS { st with off := false } 1099511627776 [] = ST := ⟨_, rfl⟩
  have HOFF : Hid (ST.off = false) := by rw [← hST]; rfl
  rw [hST] at hp2
  have PD := Lib.hid hp2
  clear hp2 hST
  go_wp2_with fail
  refine' reg_order [eqV _, eqV _, eqV _, eqV _, eqV _, eqV _, eqV _, eqV _, eqV _, eqV _, eqV _, eqV _, fun v w => ∃ r a2 m2 c2, v = Value.tuple #[Value.pointer (some ⟨r, 0, none⟩), Value.slice a2 m2 c2, Value.nilIface] ∧ RowsRd w (fun k => k = C.g) a2 m2 c2 M ∧ ∃ Q' st', PlR C w0 w Q' (i + 1) r st' ⟨2, C.n, C.size, h, ksOf C.size M⟩ M ⟨rv, .slice a m c, mv, may, ma, h.first, M⟩, fun v w => ∃ r a2 m2 c2, v = Value.tuple #[Value.pointer (some ⟨r, 0, none⟩), Value.slice a2 m2 c2, Value.nilIface] ∧ RowsRd w (fun k => k = C.g) a2 m2 c2 M ∧ ∃ Q' st', PlR C w0 w Q' (i + 1) r st' ⟨2, C.n, C.size, h, ksOf C.size M⟩ M ⟨rv, .slice a m c, mv, may, ma, h.first, M⟩, fun v w => ∃ r, v = Value.pointer (some ⟨r, 0, none⟩) ∧ ∃ Q' st', PlR C w0 w Q' (i + 1) r st' ⟨2, C.n, C.size, h, ksOf C.size M⟩ M ⟨rv, .slice a m c, mv, may, ma, h.first, M⟩, fun v w => ∃ a2 m2 c2, v = Value.slice a2 m2 c2 ∧ RowsRd w (fun k => k = C.g) a2 m2 c2 M, eqV _, fun v w => ∃ r, v = Value.pointer (some ⟨r, 0, none⟩) ∧ ∃ Q' st', PlR C w0 w Q' (i + 1) r st' ⟨2, C.n, C.size, h, ksOf C.size M⟩ M ⟨rv, .slice a m c, mv, may, ma, h.first, M⟩, fun v w => ∃ a2 m2 c2, v = Value.slice a2 m2 c2 ∧ RowsRd w (fun k => k = C.g) a2 m2 c2 M, eqV _] [(12, fun w w' => True)] [(3, fun w => PlD C w0 w Z2 i ST h M ⟨rv, .slice a m c, mv, may, ma, h.first, M⟩), (7, fun w => PlD C w0 w Z2 i ST h M ⟨rv, .slice a m c, mv, may, ma, h.first, M⟩), (11, fun w => PlD C w0 w Z2 i ST h M ⟨rv, .slice a m c, mv, may, ma, h.first, M⟩), (12, fun w => PlD C w0 w Z2 i ST h M ⟨rv, .slice a m c, mv, may, ma, h.first, M⟩)] [21, 22, 23, 24, 25, 26, 27, 28, 29, 30, 31, 32, 33, 20, 34, 35, 36, 3, 4, 5] [[], [0], [1], [2], [], [4], [5], [6], [], [8], [9], [10], [3, 7, 11], [12], [13], [13], [13], [14], [15], [16]] [0, 1, 2, 3, 4, 5, 6, 7, 8, 9, 10, 11, 12, 13, 14, 15, 16, 17, 18, 19] 20 (by kernel_rfl) ⟨eqV_stays _, eqV_stays _, eqV_stays _, eqV_stays _, eqV_stays _, eqV_stays _, eqV_stays _, eqV_stays _, eqV_stays _, eqV_stays _, eqV_stays _, eqV_stays _, fun _ _ _ p b => p.elim fun r q => q.elim fun x q => q.elim fun y q => q.elim fun z q => ⟨r, x, y, z, q.1, q.2.1.below b, q.2.2.elim fun Q' q => q.elim fun st' q => ⟨Q', st', q.more b⟩⟩, fun _ _ _ p b => p.elim fun r q => q.elim fun x q => q.elim fun y q => q.elim fun z q => ⟨r, x, y, z, q.1, q.2.1.below b, q.2.2.elim fun Q' q => q.elim fun st' q => ⟨Q', st', q.more b⟩⟩, fun _ _ _ p b => p.elim fun r q => ⟨r, q.1, q.2.elim fun Q' q => q.elim fun st' q => ⟨Q', st', q.more b⟩⟩, fun _ _ _ p b => p.elim fun x q => q.elim fun y q => q.elim fun z q => ⟨x, y, z, q.1, q.2.below b⟩, eqV_stays _, fun _ _ _ p b => p.elim fun r q => ⟨r, q.1, q.2.elim fun Q' q => q.elim fun st' q => ⟨Q', st', q.more b⟩⟩, fun _ _ _ p b => p.elim fun x q => q.elim fun y q => q.elim fun z q => ⟨x, y, z, q.1, q.2.below b⟩, eqV_stays _, trivial⟩ ⟨⟨.inl (eqV_stays _), .inl (eqV_stays _), .inl (eqV_stays _), .inl (eqV_stays _), .inl (eqV_stays _), .inl (eqV_stays _), .inl (eqV_stays _), .inl (eqV_stays _), .inl (eqV_stays _), .inl (eqV_stays _), .inl (eqV_stays _), .inl (eqV_stays _), .inr (.inr rfl), .inr (.inl (by kernel_rfl)), .inr (.inl (by kernel_rfl)), .inr (.inl (by kernel_rfl)), .inl (eqV_stays _), .inr (.inl (by kernel_rfl)), .inr (.inl (by kernel_rfl)), .inl (eqV_stays _), trivial⟩, trivial⟩ ⟨fun _ _ p b => p.more b, fun _ _ p b => p.more b, fun _ _ p b => p.more b, fun _ _ p b => p.more b, trivial⟩ ⟨⟨.inr (.inl (by kernel_rfl)), .inr (.inl (by kernel_rfl)), .inr (.inl (by kernel_rfl)), .inr (.inr rfl), trivial⟩, trivial⟩ ⟨PD.out.drew, PD.out.drew, PD.out.drew, PD.out.drew, trivial⟩ 116 rfl (by kernel_rfl) (by kernel_rfl) rfl rfl 20 rfl ?q1obl ?q1fin
  case q1obl =>
    refine And.intro ?q1o0 (And.intro ?q1o1 (And.intro ?q1o2 (And.intro ?q1o3 (And.intro ?q1o4 (And.intro ?q1o5 (And.intro ?q1o6 (And.intro ?q1o7 (And.intro ?q1o8 (And.intro ?q1o9 (And.intro ?q1o10 (And.intro ?q1o11 (And.intro ?q1o12 (And.intro ?q1o13 (And.intro ?q1o14 (And.intro ?q1o15 (And.intro ?q1o16 (And.intro ?q1o17 (And.intro ?q1o18 (And.intro ?q1o19 (True.intro))))))))))))))))))))
    case q1o0 =>
      intro w1 hI
      refine turn2_on (by rfl) ?_
      intro K hK
      go_simp
      refine hK _ _ ⟨rfl, Kept.refl _, ?_⟩
      show _ = _
      simp only [gv1]
      rfl
    case q1o1 =>
      intro w1 hI
      intro v0 h0
      change _ = _ at h0
      subst v0
      refine turn2_on (by rfl) ?_
      intro K hK
      simp only [gv2]
      go_simp
      refine hK _ _ ⟨rfl, Kept.refl _, ?_⟩
      show _ = _
      simp only [gv1]
      rfl
    case q1o2 =>
      intro w1 hI
      intro v1 h1
      change _ = _ at h1
      subst v1
      refine turn2_on (by rfl) ?_
      intro K hK
      simp only [gv2]
      go_simp
      refine hK _ _ ⟨rfl, Kept.refl _, ?_⟩
      show _ = _
      simp only [gv1]
      rfl
    case q1o3 =>
      intro w1 hI
      replace hI : (fun w => PlD C w0 w Z2 i ST h M ⟨rv, .slice a m c, mv, may, ma, h.first, M⟩) w1 := hI
      intro v2 h2
      change _ = _ at h2
      subst v2
      refine turn2_on (by rfl) ?_
      intro K hK
      simp only [gv2]
      obtain ⟨y0, y1, y2, y3, y4, y5, y6, y7, y8, yf⟩ := plcells hI.row
      go_simp
      refine hK _ _ ⟨rfl, Kept.refl _, ?_⟩
      show _ = _
      simp only [gv1]
      rfl
    case q1o4 =>
      intro w1 hI
      refine turn2_on (by rfl) ?_
      intro K hK
      go_simp
      refine hK _ _ ⟨rfl, Kept.refl _, ?_⟩
      show _ = _
      simp only [gv1]
      rfl
    case q1o5 =>
      intro w1 hI
      intro v4 h4
      change _ = _ at h4
      subst v4
      refine turn2_on (by rfl) ?_
      intro K hK
      simp only [gv2]
      go_simp
      refine hK _ _ ⟨rfl, Kept.refl _, ?_⟩
      show _ = _
      simp only [gv1]
      rfl
    case q1o6 =>
      intro w1 hI
      intro v5 h5
      change _ = _ at h5
      subst v5
      refine turn2_on (by rfl) ?_
      intro K hK
      simp only [gv2]
      go_simp
      refine hK _ _ ⟨rfl, Kept.refl _, ?_⟩
      show _ = _
      simp only [gv1]
      rfl
    case q1o7 =>
      intro w1 hI
      replace hI : (fun w => PlD C w0 w Z2 i ST h M ⟨rv, .slice a m c, mv, may, ma, h.first, M⟩) w1 := hI
      intro v6 h6
      change _ = _ at h6
      subst v6
      refine turn2_on (by rfl) ?_
      intro K hK
      simp only [gv2]
      obtain ⟨y0, y1, y2, y3, y4, y5, y6, y7, y8, yf⟩ := plcells hI.row
      go_simp
      refine hK _ _ ⟨rfl, Kept.refl _, ?_⟩
      show _ = _
      simp only [gv1]
      rfl
    case q1o8 =>
      intro w1 hI
      refine turn2_on (by rfl) ?_
      intro K hK
      go_simp
      refine hK _ _ ⟨rfl, Kept.refl _, ?_⟩
      show _ = _
      simp only [gv1]
      rfl
    case q1o9 =>
      intro w1 hI
      intro v8 h8
      change _ = _ at h8
      subst v8
      refine turn2_on (by rfl) ?_
      intro K hK
      simp only [gv2]
      go_simp
      refine hK _ _ ⟨rfl, Kept.refl _, ?_⟩
      show _ = _
      simp only [gv1]
      rfl
    case q1o10 =>
      intro w1 hI
      intro v9 h9
      change _ = _ at h9
      subst v9
      refine turn2_on (by rfl) ?_
      intro K hK
      simp only [gv2]
      go_simp
      refine hK _ _ ⟨rfl, Kept.refl _, ?_⟩
      show _ = _
      simp only [gv1]
      rfl
    case q1o11 =>
      intro w1 hI
      replace hI : (fun w => PlD C w0 w Z2 i ST h M ⟨rv, .slice a m c, mv, may, ma, h.first, M⟩) w1 := hI
      intro v10 h10
      change _ = _ at h10
      subst v10
      refine turn2_on (by rfl) ?_
      intro K hK
      simp only [gv2]
      obtain ⟨y0, y1, y2, y3, y4, y5, y6, y7, y8, yf⟩ := plcells hI.row
      go_simp
      refine hK _ _ ⟨rfl, Kept.refl _, ?_⟩
      show _ = _
      simp only [gv1]
      rfl
    case q1o12 =>
      intro w1 hI
      replace hI : (fun w => PlD C w0 w Z2 i ST h M ⟨rv, .slice a m c, mv, may, ma, h.first, M⟩) w1 := hI
      intro v3 h3
      change _ = _ at h3
      subst v3
      intro v7 h7
      change _ = _ at h7
      subst v7
      intro v11 h11
      change _ = _ at h11
      subst v11
      refine turn2_on (by rfl) ?_
      intro K hK
      simp only [gv2]
      go_simp
      refine Calls.mono (PlD.opn OK hI HOFF.out (by omega)) ?_
      rintro e w2 ⟨r2, x2, y2, z2, rfl, hr2, hp2⟩
      refine hK _ _ ⟨rfl, trivial, ?_⟩
      show ∃ r a2 m2 c2, _ = Value.tuple #[Value.pointer (some ⟨r, 0, none⟩), Value.slice a2 m2 c2, Value.nilIface] ∧ RowsRd w2 (fun k => k = C.g) a2 m2 c2 M ∧ ∃ Q' st', PlR C w0 w2 Q' (i + 1) r st' ⟨2, C.n, C.size, h, ksOf C.size M⟩ M ⟨rv, .slice a m c, mv, may, ma, h.first, M⟩
      simp only [gv1]
      exact ⟨r2, x2, y2, z2, rfl, hr2, hp2⟩
    case q1o13 =>
      intro w1 hI
      intro v12 h12
      obtain ⟨r12, a12, m12, c12, rfl, hr12, hp12⟩ := h12
      refine turn2_on (by rfl) ?_
      intro K hK
      simp only [gv2]
      go_simp
      refine hK _ _ ⟨rfl, Kept.refl _, ?_⟩
      show ∃ r a2 m2 c2, _ = Value.tuple #[Value.pointer (some ⟨r, 0, none⟩), Value.slice a2 m2 c2, Value.nilIface] ∧ RowsRd w1 (fun k => k = C.g) a2 m2 c2 M ∧ ∃ Q' st', PlR C w0 w1 Q' (i + 1) r st' ⟨2, C.n, C.size, h, ksOf C.size M⟩ M ⟨rv, .slice a m c, mv, may, ma, h.first, M⟩
      simp only [gv1]
      exact ⟨r12, a12, m12, c12, rfl, hr12, hp12⟩
    case q1o14 =>
      intro w1 hI
      intro v13 h13
      obtain ⟨r13, a13, m13, c13, rfl, hr13, hp13⟩ := h13
      refine turn2_on (by rfl) ?_
      intro K hK
      simp only [gv2]
      go_simp
      refine hK _ _ ⟨rfl, Kept.refl _, ?_⟩
      show ∃ r, _ = Value.pointer (some ⟨r, 0, none⟩) ∧ ∃ Q' st', PlR C w0 w1 Q' (i + 1) r st' ⟨2, C.n, C.size, h, ksOf C.size M⟩ M ⟨rv, .slice a m c, mv, may, ma, h.first, M⟩
      simp only [gv1]
      exact ⟨r13, rfl, hp13⟩
    case q1o15 =>
      intro w1 hI
      intro v13 h13
      obtain ⟨r13, a13, m13, c13, rfl, hr13, hp13⟩ := h13
      refine turn2_on (by rfl) ?_
      intro K hK
      simp only [gv2]
      go_simp
      refine hK _ _ ⟨rfl, Kept.refl _, ?_⟩
      show ∃ a2 m2 c2, _ = Value.slice a2 m2 c2 ∧ RowsRd w1 (fun k => k = C.g) a2 m2 c2 M
      simp only [gv1]
      exact ⟨a13, m13, c13, rfl, hr13⟩
    case q1o16 =>
      intro w1 hI
      intro v13 h13
      obtain ⟨r13, a13, m13, c13, rfl, hr13, hp13⟩ := h13
      refine turn2_on (by rfl) ?_
      intro K hK
      simp only [gv2]
      go_simp
      refine hK _ _ ⟨rfl, Kept.refl _, ?_⟩
      show _ = _
      simp only [gv1]
      rfl
    case q1o17 =>
      intro w1 hI
      intro v14 h14
      obtain ⟨r14, rfl, hp14⟩ := h14
      refine turn2_on (by rfl) ?_
      intro K hK
      simp only [gv2]
      go_simp
      refine hK _ _ ⟨rfl, Kept.refl _, ?_⟩
      show ∃ r, _ = Value.pointer (some ⟨r, 0, none⟩) ∧ ∃ Q' st', PlR C w0 w1 Q' (i + 1) r st' ⟨2, C.n, C.size, h, ksOf C.size M⟩ M ⟨rv, .slice a m c, mv, may, ma, h.first, M⟩
      simp only [gv1]
      exact ⟨r14, rfl, hp14⟩
    case q1o18 =>
      intro w1 hI
      intro v15 h15
      obtain ⟨a15, m15, c15, rfl, hr15⟩ := h15
      refine turn2_on (by rfl) ?_
      intro K hK
      simp only [gv2]
      go_simp
      refine hK _ _ ⟨rfl, Kept.refl _, ?_⟩
      show ∃ a2 m2 c2, _ = Value.slice a2 m2 c2 ∧ RowsRd w1 (fun k => k = C.g) a2 m2 c2 M
      simp only [gv1]
      exact ⟨a15, m15, c15, rfl, hr15⟩
    case q1o19 =>
      intro w1 hI
      intro v16 h16
      change _ = _ at h16
      subst v16
      refine turn2_on (by rfl) ?_
      intro K hK
      simp only [gv2]
      go_simp
      refine hK _ _ ⟨rfl, Kept.refl _, ?_⟩
      show _ = _
      simp only [gv1]
      rfl
  intro w9 hI
  intro v0 h0
  change _ = _ at h0
  subst v0
  intro v1 h1
  change _ = _ at h1
  subst v1
  intro v2 h2
  change _ = _ at h2
  subst v2
  intro v3 h3
  change _ = _ at h3
  subst v3
  intro v4 h4
  change _ = _ at h4
  subst v4
  intro v5 h5
  change _ = _ at h5
  subst v5
  intro v6 h6
  change _ = _ at h6
  subst v6
  intro v7 h7
  change _ = _ at h7
  subst v7
  intro v8 h8
  change _ = _ at h8
  subst v8
  intro v9 h9
  change _ = _ at h9
  subst v9
  intro v10 h10
  change _ = _ at h10
  subst v10
  intro v11 h11
  change _ = _ at h11
  subst v11
  intro v12 h12
  obtain ⟨r12, a12, m12, c12, rfl, hr12, hp12⟩ := h12
  intro v13 h13
  obtain ⟨r13, a13, m13, c13, rfl, hr13, hp13⟩ := h13
  intro v14 h14
  obtain ⟨r14, rfl, hp14⟩ := h14
  intro v15 h15
  obtain ⟨a15, m15, c15, rfl, hr15⟩ := h15
  intro v16 h16
  change _ = _ at h16
  subst v16
  intro v17 h17
  obtain ⟨r17, rfl, hp17⟩ := h17
  intro v18 h18
  obtain ⟨a18, m18, c18, rfl, hr18⟩ := h18
  intro v19 h19
  change _ = _ at h19
  subst v19
  simp only [Given, gv2]
  obtain ⟨Q, st2, hp17⟩ := hp17
  have PO := Lib.hid hp17
  have hrd2 := Lib.hid hr18
  clear hp17 hr18 P0 P1 PD
  obtain ⟨y0, y1, y2, y3, y4, y5, y6, y7, y8, yf⟩ := plcells PO.out.row
  go_upto_region 8 with fail
  have hpq := PO.out.put 1 (.pointer (some ⟨r17, 0, none⟩)) ⟨.pointer (some ⟨r17, 0, none⟩), .slice a m c, mv, may, ma, h.first, M⟩ (fun w1 h1 => rowW_set1 _ h1) rfl rfl (fun x => ⟨by simp, (PO.out.nu x).2⟩)
  have hrq := hrd2.out.keep (w' := w9.setCell ⟨C.g, 1, none⟩ (.pointer (some ⟨r17, 0, none⟩))) (fun k hk hn => (cell_grownR w9 C.g 1 (.pointer (some ⟨r17, 0, none⟩))).block k hk (fun e => by injection e with e; exact hn e)) (fun _ _ h => h)
  obtain ⟨wq, hwq⟩ : ∃ wq, w9.setCell ⟨C.g, 1, none⟩ (.pointer (some ⟨r17, 0, none⟩)) = wq := ⟨_, rfl⟩
  rw [hwq] at hpq hrq ⊢
  have PQ := Lib.hid hpq
  have HR := Lib.hid hrq
  clear hwq hpq hrq hrd2 PO y0 y1 y2 y3 y4 y5 y6 y7 y8 yf hI
  obtain ⟨a0, m0, c0, e0, hrw⟩ := PQ.out.rows
  injection e0 with e0 e01 e02
  subst e0 e01 e02
  have HRW := Lib.hid hrw
  clear hrw
  refine' reg_free (G := Kept) (pickF [eqV _, eqV _, eqV _, eqV _, eqV _, eqV _, eqV _, eqV _, eqV _, eqV _, eqV _, eqV _, eqV _, eqV _, eqV _, eqV _]) [48, 49, 50, 51, 52, 53, 54, 55, 56, 57, 58, 59, 60, 61, 62, 47] [[], [], [1], [2], [3], [0, 4], [5], [6], [6, 7], [6], [6, 9], [6, 10], [6, 11], [6, 8, 12], [6, 13], [14]] [0, 1, 2, 3, 4, 5, 6, 7, 8, 9, 10, 11, 12, 13, 14, 15] (by kernel_rfl) Kept.refl Kept.trans (pick_stays ⟨eqV_stays _, eqV_stays _, eqV_stays _, eqV_stays _, eqV_stays _, eqV_stays _, eqV_stays _, eqV_stays _, eqV_stays _, eqV_stays _, eqV_stays _, eqV_stays _, eqV_stays _, eqV_stays _, eqV_stays _, eqV_stays _, trivial⟩) 116 rfl (by kernel_rfl) (by kernel_rfl) rfl rfl ?r2obl ?r2fin
  case r2obl =>
    refine And.intro ?r2o0 (And.intro ?r2o1 (And.intro ?r2o2 (And.intro ?r2o3 (And.intro ?r2o4 (And.intro ?r2o5 (And.intro ?r2o6 (And.intro ?r2o7 (And.intro ?r2o8 (And.intro ?r2o9 (And.intro ?r2o10 (And.intro ?r2o11 (And.intro ?r2o12 (And.intro ?r2o13 (And.intro ?r2o14 (And.intro ?r2o15 (True.intro))))))))))))))))
    case r2o0 =>
      intro w1 hG
      refine turn_on (by rfl) ?_
      intro K hK
      go_simp
      refine hK _ _ ⟨rfl, Kept.refl _, ?_⟩
      show _ = _
      simp only [gv1]
      rfl
    case r2o1 =>
      intro w1 hG
      refine turn_on (by rfl) ?_
      intro K hK
      go_simp
      refine hK _ _ ⟨rfl, Kept.refl _, ?_⟩
      show _ = _
      simp only [gv1]
      rfl
    case r2o2 =>
      intro w1 hG
      intro v1 h1
      change _ = _ at h1
      subst h1
      refine turn_on (by rfl) ?_
      intro K hK
      simp only [gv2]
      go_simp
      refine hK _ _ ⟨rfl, Kept.refl _, ?_⟩
      show _ = _
      simp only [gv1]
      rfl
    case r2o3 =>
      intro w1 hG
      intro v2 h2
      change _ = _ at h2
      subst h2
      refine turn_on (by rfl) ?_
      intro K hK
      simp only [gv2]
      go_simp
      refine hK _ _ ⟨rfl, Kept.refl _, ?_⟩
      show _ = _
      simp only [gv1]
      rfl
    case r2o4 =>
      intro w1 hG
      intro v3 h3
      change _ = _ at h3
      subst h3
      refine turn_on (by rfl) ?_
      intro K hK
      simp only [gv2]
      have PR := PQ.out.drew.more hG
      obtain ⟨y0, y1, y2, y3, y4, y5, y6, y7, y8, yf⟩ := plcells PR.row
      go_simp
      refine hK _ _ ⟨rfl, Kept.refl _, ?_⟩
      show _ = _
      simp only [gv1]
      rfl
    case r2o5 =>
      intro w1 hG
      intro v0 h0
      change _ = _ at h0
      subst h0
      intro v4 h4
      change _ = _ at h4
      subst h4
      refine turn_on (by rfl) ?_
      intro K hK
      simp only [gv2]
      go_simp
      refine Calls.mono (rows_yes _ _ _ _ _ _ M _ _ w1 (HR.out.below (kept_undrew hG)) (HRW.out.below (kept_undrew hG)) (by have := HR.out.len; have := HL60.out; omega)) ?_
      rintro e w2 ⟨rfl, hbb⟩
      refine hK _ _ ⟨rfl, hbb, ?_⟩
      show _ = _
      simp only [gv1]
      rfl
    case r2o6 =>
      intro w1 hG
      intro v5 h5
      change _ = _ at h5
      subst h5
      refine turn_on (by rfl) ?_
      intro K hK
      simp only [gv2]
      go_simp
      refine hK _ _ ⟨rfl, Kept.refl _, ?_⟩
      show _ = _
      simp only [gv1]
      rfl
    case r2o7 =>
      intro w1 hG
      intro v6 h6
      change _ = _ at h6
      subst h6
      refine turn_on (by rfl) ?_
      intro K hK
      simp only [gv2]
      go_simp
      refine hK _ _ ⟨rfl, Kept.refl _, ?_⟩
      show _ = _
      simp only [gv1]
      rfl
    case r2o8 =>
      intro w1 hG
      intro v6 h6
      change _ = _ at h6
      subst h6
      intro v7 h7
      change _ = _ at h7
      subst h7
      refine turn_on (by rfl) ?_
      intro K hK
      simp only [gv2]
      have PR := PQ.out.drew.more hG
      go_simp
      refine Calls.mono PR.first ?_
      rintro e w2 ⟨rfl, rfl⟩
      refine hK _ _ ⟨rfl, Kept.refl _, ?_⟩
      show _ = _
      simp only [gv1]
      rfl
    case r2o9 =>
      intro w1 hG
      intro v6 h6
      change _ = _ at h6
      subst h6
      refine turn_on (by rfl) ?_
      intro K hK
      simp only [gv2]
      go_simp
      refine hK _ _ ⟨rfl, Kept.refl _, ?_⟩
      show _ = _
      simp only [gv1]
      rfl
    case r2o10 =>
      intro w1 hG
      intro v6 h6
      change _ = _ at h6
      subst h6
      intro v9 h9
      change _ = _ at h9
      subst h9
      refine turn_on (by rfl) ?_
      intro K hK
      simp only [gv2]
      go_simp
      refine hK _ _ ⟨rfl, Kept.refl _, ?_⟩
      show _ = _
      simp only [gv1]
      rfl
    case r2o11 =>
      intro w1 hG
      intro v6 h6
      change _ = _ at h6
      subst h6
      intro v10 h10
      change _ = _ at h10
      subst h10
      refine turn_on (by rfl) ?_
      intro K hK
      simp only [gv2]
      go_simp
      refine hK _ _ ⟨rfl, Kept.refl _, ?_⟩
      show _ = _
      simp only [gv1]
      rfl
    case r2o12 =>
      intro w1 hG
      intro v6 h6
      change _ = _ at h6
      subst h6
      intro v11 h11
      change _ = _ at h11
      subst h11
      refine turn_on (by rfl) ?_
      intro K hK
      simp only [gv2]
      have PR := PQ.out.drew.more hG
      obtain ⟨y0, y1, y2, y3, y4, y5, y6, y7, y8, yf⟩ := plcells PR.row
      go_simp
      refine hK _ _ ⟨rfl, Kept.refl _, ?_⟩
      show _ = _
      simp only [gv1]
      rfl
    case r2o13 =>
      intro w1 hG
      intro v6 h6
      change _ = _ at h6
      subst h6
      intro v8 h8
      change _ = _ at h8
      subst h8
      intro v12 h12
      change _ = _ at h12
      subst h12
      refine turn_on (by rfl) ?_
      intro K hK
      simp only [gv2]
      go_simp
      refine hK _ _ ⟨rfl, Kept.refl _, ?_⟩
      show _ = _
      simp only [gv1]
      rfl
    case r2o14 =>
      intro w1 hG
      intro v6 h6
      change _ = _ at h6
      subst h6
      intro v13 h13
      change _ = _ at h13
      subst h13
      refine turn_on (by rfl) ?_
      intro K hK
      simp only [gv2]
      go_simp
      refine hK _ _ ⟨rfl, Kept.refl _, ?_⟩
      show _ = _
      simp only [gv1]
      rfl
    case r2o15 =>
      intro w1 hG
      intro v14 h14
      change _ = _ at h14
      subst h14
      refine turn_on (by rfl) ?_
      intro K hK
      simp only [gv2]
      go_simp
      refine hK _ _ ⟨rfl, Kept.refl _, ?_⟩
      show _ = _
      simp only [gv1]
      rfl
  intro w1 hG
  intro v0 h0
  change _ = _ at h0
  subst h0
  intro v1 h1
  change _ = _ at h1
  subst h1
  intro v2 h2
  change _ = _ at h2
  subst h2
  intro v3 h3
  change _ = _ at h3
  subst h3
  intro v4 h4
  change _ = _ at h4
  subst h4
  intro v5 h5
  change _ = _ at h5
  subst h5
  intro v6 h6
  change _ = _ at h6
  subst h6
  intro v7 h7
  change _ = _ at h7
  subst h7
  intro v8 h8
  change _ = _ at h8
  subst h8
  intro v9 h9
  change _ = _ at h9
  subst h9
  intro v10 h10
  change _ = _ at h10
  subst h10
  intro v11 h11
  change _ = _ at h11
  subst h11
  intro v12 h12
  change _ = _ at h12
  subst h12
  intro v13 h13
  change _ = _ at h13
  subst h13
  intro v14 h14
  change _ = _ at h14
  subst h14
  intro v15 h15
  change _ = _ at h15
  subst h15
  simp only [Given, gv2]
  have PR8 := Lib.hid (PQ.out.drew.more hG)
  clear PQ HR HRW hG
  obtain ⟨y0, y1, y2, y3, y4, y5, y6, y7, y8, yf⟩ := plcells PR8.out.row
  have dd : (h.first == h.first) = true := beq_self_eq_true _
  go_upto_region 13 with fail
  skip
  have hpq := PR8.out.put 6 (.bool false) ⟨.pointer (some ⟨r17, 0, none⟩), .slice a m c, mv, false, ma, h.first, M⟩ (fun w1 h1 => rowW_set6 _ h1) rfl rfl PR8.out.nu
  obtain ⟨wz, hwz⟩ : ∃ wz, w1.setCell ⟨C.g, 6, none⟩ (.bool false) = wz := ⟨_, rfl⟩
  rw [hwz] at hpq ⊢
  have PQ2 := Lib.hid hpq
  clear hwz hpq PR8 y0 y1 y2 y3 y4 y5 y6 y7 y8 yf
  have eq1 : IntKind.u64.wrap (m : Int) = (m : Int) := by rw [IntKind.wrap_u64]; omega
  have eq2 : IntKind.u64.wrap (h.first + (m : Int)) = h.next := by rw [IntKind.wrap_u64, HNX.out, HLEN.out]; have h1 := HN0.out.f0; have h2 := HN0.out.n1; have h3 := HNX.out; rw [← HLEN.out] at h3 ⊢; omega
  have dd2 : (h.next == h.next) = true := beq_self_eq_true _
  refine' reg_free (G := Kept) (pickF [eqV _, eqV _, eqV _, eqV _, eqV _, eqV _, eqV _, eqV _, eqV _, eqV _, eqV _, eqV _, eqV _, eqV _, eqV _]) [102, 103, 104, 105, 106, 107, 108, 109, 110, 111, 112, 113, 114, 115, 2] [[], [0], [], [2], [3], [4], [], [6], [7], [8], [9], [10], [5, 11], [1, 12], [13]] [0, 1, 2, 3, 4, 5, 6, 7, 8, 9, 10, 11, 12, 13, 14] (by kernel_rfl) Kept.refl Kept.trans (pick_stays ⟨eqV_stays _, eqV_stays _, eqV_stays _, eqV_stays _, eqV_stays _, eqV_stays _, eqV_stays _, eqV_stays _, eqV_stays _, eqV_stays _, eqV_stays _, eqV_stays _, eqV_stays _, eqV_stays _, eqV_stays _, trivial⟩) 116 rfl (by kernel_rfl) (by kernel_rfl) rfl rfl ?r3obl ?r3fin
  case r3obl =>
    refine And.intro ?r3o0 (And.intro ?r3o1 (And.intro ?r3o2 (And.intro ?r3o3 (And.intro ?r3o4 (And.intro ?r3o5 (And.intro ?r3o6 (And.intro ?r3o7 (And.intro ?r3o8 (And.intro ?r3o9 (And.intro ?r3o10 (And.intro ?r3o11 (And.intro ?r3o12 (And.intro ?r3o13 (And.intro ?r3o14 (True.intro)))))))))))))))
    case r3o0 =>
      intro w1 hG
      refine turn_on (by rfl) ?_
      intro K hK
      go_simp
      refine hK _ _ ⟨rfl, Kept.refl _, ?_⟩
      show _ = _
      simp only [gv1]
      rfl
    case r3o1 =>
      intro w1 hG
      intro v0 h0
      change _ = _ at h0
      subst h0
      refine turn_on (by rfl) ?_
      intro K hK
      simp only [gv2]
      have PR := PQ2.out.drew.more hG
      go_simp
      refine Calls.mono PR.next ?_
      rintro e w2 ⟨rfl, rfl⟩
      refine hK _ _ ⟨rfl, Kept.refl _, ?_⟩
      show _ = _
      simp only [gv1]
      rfl
    case r3o2 =>
      intro w1 hG
      refine turn_on (by rfl) ?_
      intro K hK
      go_simp
      refine hK _ _ ⟨rfl, Kept.refl _, ?_⟩
      show _ = _
      simp only [gv1]
      rfl
    case r3o3 =>
      intro w1 hG
      intro v2 h2
      change _ = _ at h2
      subst h2
      refine turn_on (by rfl) ?_
      intro K hK
      simp only [gv2]
      go_simp
      refine hK _ _ ⟨rfl, Kept.refl _, ?_⟩
      show _ = _
      simp only [gv1]
      rfl
    case r3o4 =>
      intro w1 hG
      intro v3 h3
      change _ = _ at h3
      subst h3
      refine turn_on (by rfl) ?_
      intro K hK
      simp only [gv2]
      go_simp
      refine hK _ _ ⟨rfl, Kept.refl _, ?_⟩
      show _ = _
      simp only [gv1]
      rfl
    case r3o5 =>
      intro w1 hG
      intro v4 h4
      change _ = _ at h4
      subst h4
      refine turn_on (by rfl) ?_
      intro K hK
      simp only [gv2]
      have PR := PQ2.out.drew.more hG
      obtain ⟨y0, y1, y2, y3, y4, y5, y6, y7, y8, yf⟩ := plcells PR.row
      go_simp
      refine hK _ _ ⟨rfl, Kept.refl _, ?_⟩
      show _ = _
      simp only [gv1]
      rfl
    case r3o6 =>
      intro w1 hG
      refine turn_on (by rfl) ?_
      intro K hK
      go_simp
      refine hK _ _ ⟨rfl, Kept.refl _, ?_⟩
      show _ = _
      simp only [gv1]
      rfl
    case r3o7 =>
      intro w1 hG
      intro v6 h6
      change _ = _ at h6
      subst h6
      refine turn_on (by rfl) ?_
      intro K hK
      simp only [gv2]
      go_simp
      refine hK _ _ ⟨rfl, Kept.refl _, ?_⟩
      show _ = _
      simp only [gv1]
      rfl
    case r3o8 =>
      intro w1 hG
      intro v7 h7
      change _ = _ at h7
      subst h7
      refine turn_on (by rfl) ?_
      intro K hK
      simp only [gv2]
      go_simp
      refine hK _ _ ⟨rfl, Kept.refl _, ?_⟩
      show _ = _
      simp only [gv1]
      rfl
    case r3o9 =>
      intro w1 hG
      intro v8 h8
      change _ = _ at h8
      subst h8
      refine turn_on (by rfl) ?_
      intro K hK
      simp only [gv2]
      have PR := PQ2.out.drew.more hG
      obtain ⟨y0, y1, y2, y3, y4, y5, y6, y7, y8, yf⟩ := plcells PR.row
      go_simp
      refine hK _ _ ⟨rfl, Kept.refl _, ?_⟩
      show _ = _
      simp only [gv1]
      rfl
    case r3o10 =>
      intro w1 hG
      intro v9 h9
      change _ = _ at h9
      subst h9
      refine turn_on (by rfl) ?_
      intro K hK
      simp only [gv2]
      go_simp
      refine hK _ _ ⟨rfl, Kept.refl _, ?_⟩
      show _ = _
      simp only [gv1]
      rfl
    case r3o11 =>
      intro w1 hG
      intro v10 h10
      change _ = _ at h10
      subst h10
      refine turn_on (by rfl) ?_
      intro K hK
      simp only [gv2]
      go_simp
      refine hK _ _ ⟨rfl, Kept.refl _, ?_⟩
      show _ = _
      simp only [gv1]
      rfl
    case r3o12 =>
      intro w1 hG
      intro v5 h5
      change _ = _ at h5
      subst h5
      intro v11 h11
      change _ = _ at h11
      subst h11
      refine turn_on (by rfl) ?_
      intro K hK
      simp only [gv2]
      go_simp
      refine hK _ _ ⟨rfl, Kept.refl _, ?_⟩
      show _ = _
      simp only [gv1]
      rfl
    case r3o13 =>
      intro w1 hG
      intro v1 h1
      change _ = _ at h1
      subst h1
      intro v12 h12
      change _ = _ at h12
      subst h12
      refine turn_on (by rfl) ?_
      intro K hK
      simp only [gv2]
      go_simp
      refine hK _ _ ⟨rfl, Kept.refl _, ?_⟩
      show _ = _
      simp only [gv1]
      rfl
    case r3o14 =>
      intro w1 hG
      intro v13 h13
      change _ = _ at h13
      subst h13
      refine turn_on (by rfl) ?_
      intro K hK
      simp only [gv2]
      go_simp
      refine hK _ _ ⟨rfl, Kept.refl _, ?_⟩
      show _ = _
      simp only [gv1]
      rfl
  intro w1 hG
  intro v0 h0
  change _ = _ at h0
  subst h0
  intro v1 h1
  change _ = _ at h1
  subst h1
  intro v2 h2
  change _ = _ at h2
  subst h2
  intro v3 h3
  change _ = _ at h3
  subst h3
  intro v4 h4
  change _ = _ at h4
  subst h4
  intro v5 h5
  change _ = _ at h5
  subst h5
  intro v6 h6
  change _ = _ at h6
  subst h6
  intro v7 h7
  change _ = _ at h7
  subst h7
  intro v8 h8
  change _ = _ at h8
  subst h8
  intro v9 h9
  change _ = _ at h9
  subst h9
  intro v10 h10
  change _ = _ at h10
  subst h10
  intro v11 h11
  change _ = _ at h11
  subst h11
  intro v12 h12
  change _ = _ at h12
  subst h12
  intro v13 h13
  change _ = _ at h13
  subst h13
  intro v14 h14
  change _ = _ at h14
  subst h14
  simp only [Given, gv2]
  have PZ := Lib.hid (PQ2.out.drew.more hG)
  clear PQ2 hG
  go_wp2_with fail
  skip
  go_ret
  exact ⟨rfl, Q, r17, st2, _, _, PZ.out, rfl, rfl, rfl⟩
end Go.Proofs.Ytlhpdkapddnbcaa

namespace Go.Proofs.Ytlhpdkapddnbcaa
open Go.RowKit
set_option linter.unusedSimpArgs false in
set_option linter.unusedVariables false in
set_option maxRecDepth 100000 in
set_option maxHeartbeats 4000000 in
theorem wcut_any (C : PlC) (OK : C.Ok) (w0 w : World) (Z : Nat → Prop) (i : Nat) (st : Dk) (h : Hd) (L : List (List Int)) (V : PlV) (p : PlD C w0 w Z i st h L V) (hi : i ≤ 999) (hf : V.f = h.first) (hM : V.M = L) (hoff : st.off = true) (a : Option Addr) (m c : Nat) (x : Int) :
    Calls Try.prog 52 #[.pointer (some ⟨C.g, 0, none⟩), .slice a m c, .int .u64 x] w fun e w' => e = .returned (.bool true) ∧ PlS C w0 w' (i + 1) L := by
  obtain ⟨rv, lv, mv, may, ma, f, M⟩ := V
  have HOF := Lib.hid (off_any Z C.d st w p.di)
  rw [hoff] at HOF
  obtain ⟨y0, y1, y2, y3, y4, y5, y6, y7, y8, yf⟩ := plcells p.row
  have P0 := Lib.hid p
  clear p
  go_enter Try.func52, Try.ntmps52
  go_upto_region 4 with (first | (go_at_call 16; refine HOF.out.mono ?_; rintro e w1 ⟨rfl, rfl⟩))
  have hp1 := P0.out.put 6 (.bool true) ⟨rv, lv, mv, true, ma, f, M⟩ (fun w1 h1 => rowW_set6 _ h1) rfl rfl (fun z => ⟨(P0.out.nu z).1, (P0.out.nu z).2⟩)
  obtain ⟨w1, hw1⟩ : ∃ w1, w.setCell ⟨C.g, 6, none⟩ (.bool true) = w1 := ⟨_, rfl⟩
  rw [hw1] at hp1 ⊢
  have P1 := Lib.hid hp1
  clear hw1 hp1 y0 y1 y2 y3 y4 y5 y6 y7 y8 yf
  obtain ⟨y0, y1, y2, y3, y4, y5, y6, y7, y8, yf⟩ := plcells P1.out.row
  go_upto_region 5 with fail
  have hp2 := P1.out.put 7 (.slice a m c) ⟨rv, lv, .slice a m c, true, ma, f, M⟩ (fun w1 h1 => rowW_set7 _ h1) rfl rfl (fun z => ⟨(P0.out.nu z).1, by simp⟩)
  obtain ⟨w2, hw2⟩ : ∃ w2, w1.setCell ⟨C.g, 7, none⟩ (.slice a m c) = w2 := ⟨_, rfl⟩
  rw [hw2] at hp2 ⊢
  have P2 := Lib.hid hp2
  clear hw2 hp2 y0 y1 y2 y3 y4 y5 y6 y7 y8 yf
  obtain ⟨y0, y1, y2, y3, y4, y5, y6, y7, y8, yf⟩ := plcells P2.out.row
  go_upto_region 6 with fail
  have hp3 := P2.out.put 8 (.int .u64 x) ⟨rv, lv, .slice a m c, true, x, f, M⟩ (fun w1 h1 => rowW_set8 _ h1) rfl rfl (fun z => ⟨(P0.out.nu z).1, by simp⟩)
  obtain ⟨w3, hw3⟩ : ∃ w3, w2.setCell ⟨C.g, 8, none⟩ (.int .u64 x) = w3 := ⟨_, rfl⟩
  rw [hw3] at hp3 ⊢
  have P3 := Lib.hid hp3
  clear hw3 hp3 y0 y1 y2 y3 y4 y5 y6 y7 y8 yf
  obtain ⟨y0, y1, y2, y3, y4, y5, y6, y7, y8, yf⟩ := plcells P3.out.row
  go_wp2_with fail
  refine (wopen_any C OK w0 w3 Z i st h L _ P3.out hi hf hM).mono ?_
  rintro e w4 ⟨rfl, hS⟩
  have HS := Lib.hid hS
  clear hS
  go_wp2_with fail
  go_ret
  exact ⟨rfl, HS.out⟩
end Go.Proofs.Ytlhpdkapddnbcaa

namespace Go.Proofs.Ytlhpdkapddnbcaa
open Go.RowKit
theorem RdB.keep {w w' : World} {a : Option Addr} {n c : Nat} {l : List Bool} (h : RdB w a n c l) (b : Below w.heap.size w w') : RdB w' a n c l := h.kept (fun x hx hn => b.block x.block (h.lt x hx hn))
theorem PlS.keep {C : PlC} {w0 w w' : World} {i : Nat} {L : List (List Int)} (p : PlS C w0 w i L) (b : Below w.heap.size w w') : PlS C w0 w' i L := by
  obtain ⟨Q, r, st, J, V, hp, h1, h2, h3⟩ := p
  exact ⟨Q, r, st, J, V, hp.more b, h1, h2, h3⟩
/-- A row of slices in a block of its own, from hb on; the slices' bytes lie ahead of hb, and not in P. -/
structure RowsNew (w : World) (hb : Nat) (P : Nat → Prop) (v : Value) (ls : List (List Int)) : Prop where
  ex : ∃ vs : List Value, w.ownsRow hb 36 1 v ls.length vs ∧ vs.length = ls.length ∧ ∀ (i : Nat) (l : List Int), ls[i]? = some l → ∃ a n c, vs[i]? = some (.slice a n c) ∧ RdAt .u8 w a n c l ∧ ∀ x, a = some x → 0 < n → x.block < hb ∧ ¬ P x.block
theorem ownsRow_atB {w w' : World} {base : Nat} {e : TypeId} {size n : Nat} {v : Value} {xs : List Value} (h : w.ownsRow base e size v n xs) (hb : ∀ g, v.ownBlock = some g → w'.heap[g]? = w.heap[g]?) : w'.ownsRow base e size v n xs := by
  refine ⟨h.1, ?_⟩
  rcases h.2 with ⟨h1, h2⟩ | ⟨g, cap, cur, hv, h0, hh, h3⟩
  · exact .inl ⟨h1, h2⟩
  · exact .inr ⟨g, cap, cur, hv, h0, by rw [hb g (by rw [hv]; rfl)]; exact hh, h3⟩
theorem RowsNew.more {w w' : World} {hb : Nat} {P : Nat → Prop} {v : Value} {ls : List (List Int)} (h : RowsNew w hb P v ls) (b : Below w.heap.size w w') : RowsNew w' hb P v ls := by
  obtain ⟨vs, h1, h2, h3⟩ := h.ex
  refine ⟨vs, ownsRow_atB h1 (fun g hg => b.block g (h1.lt g hg).2), h2, fun i l hl => ?_⟩
  obtain ⟨a, n, c, e1, e2, e3⟩ := h3 i l hl
  exact ⟨a, n, c, e1, e2.below b, e3⟩
theorem RowsNew.rd {w : World} {hb : Nat} {P : Nat → Prop} {v : Value} {ls : List (List Int)} (h : RowsNew w hb P v ls) (hP : ∀ k, P k → k < hb) : ∃ a c, v = .slice a ls.length c ∧ RowsRd w P a ls.length c ls := by
  obtain ⟨vs, h1, h2, h3⟩ := h.ex
  rcases h1.2 with ⟨hv, hn⟩ | ⟨g, cap, cur, hv, h0, hh, q1, q2, q3, q4⟩
  · refine ⟨none, 0, by rw [hv, hn], ⟨rfl, by omega, by unfold maxLen; omega, fun _ => rfl, fun x hx => (by cases hx), fun i l hi => ?_⟩⟩
    have := (List.getElem?_eq_some_iff.1 hi).1
    omega
  · refine ⟨some ⟨g, 0, none⟩, cap, hv, ⟨rfl, q1, q2, fun e => (by cases e), fun x hx _ hp => ?_, fun i l hi => ?_⟩⟩
    · injection hx with hx
      subst hx
      have := hP g hp
      omega
    · obtain ⟨a', n', c', e1, e2, e3⟩ := h3 i l hi
      refine ⟨g, 0, a', n', c', rfl, ?_, e2, fun x hx hn => (e3 x hx hn).2⟩
      rw [Nat.zero_add, ← e1]
      rw [hv] at h1
      exact h1.cellAt i (by have := (List.getElem?_eq_some_iff.1 hi).1; omega)
/-- Some slices of bytes that lie ahead of hb, as a row's cells. -/
theorem RowsRd.vals {w : World} {P : Nat → Prop} {a : Option Addr} {n c : Nat} {ls : List (List Int)} (h : RowsRd w P a n c ls) (hb : Nat) (hs : w.heap.size ≤ hb) : ∃ vs : List Value, vs.length = ls.length ∧ (∀ i u, vs[i]? = some u → ∃ b o, a = some ⟨b, o, none⟩ ∧ b < hb ∧ w.cell? ⟨b, o + i, none⟩ = some u ∧ u.oneCell' = true) ∧ ∀ (i : Nat) (l : List Int), ls[i]? = some l → ∃ a n c, vs[i]? = some (.slice a n c) ∧ RdAt .u8 w a n c l ∧ ∀ x, a = some x → 0 < n → x.block < hb ∧ ¬ P x.block := by
  have hx : ∀ i : Nat, ∃ u : Value, ∀ l, ls[i]? = some l → (∃ b o, a = some ⟨b, o, none⟩ ∧ b < hb ∧ w.cell? ⟨b, o + i, none⟩ = some u ∧ u.oneCell' = true) ∧ ∃ a n c, u = .slice a n c ∧ RdAt .u8 w a n c l ∧ ∀ x, a = some x → 0 < n → x.block < hb ∧ ¬ P x.block := fun i => by
    cases hl : ls[i]? with
    | none => exact ⟨.bool true, fun l h => by cases h⟩
    | some l =>
      obtain ⟨b, o, a', n', c', e1, e2, e3, e4⟩ := h.each i l hl
      refine ⟨.slice a' n' c', fun l' hl' => ?_⟩
      injection hl' with hl'
      subst hl'
      exact ⟨⟨b, o, e1, Nat.lt_of_lt_of_le (block_lt_of_cell e2) hs, e2, rfl⟩, a', n', c', rfl, e3, fun x hx hn => ⟨Nat.lt_of_lt_of_le (rd_ltR e3 x hx hn) hs, e4 x hx hn⟩⟩
  obtain ⟨f, hf⟩ : ∃ f : Nat → Value, ∀ i l, ls[i]? = some l → (∃ b o, a = some ⟨b, o, none⟩ ∧ b < hb ∧ w.cell? ⟨b, o + i, none⟩ = some (f i) ∧ (f i).oneCell' = true) ∧ ∃ a n c, f i = .slice a n c ∧ RdAt .u8 w a n c l ∧ ∀ x, a = some x → 0 < n → x.block < hb ∧ ¬ P x.block := ⟨fun i => (hx i).choose, fun i => (hx i).choose_spec⟩
  have hat : ∀ i, i < ls.length → ((List.range ls.length).map f)[i]? = some (f i) := fun i hi => by simp [hi]
  refine ⟨(List.range ls.length).map f, by simp, fun i u hu => ?_, fun i l hl => ?_⟩
  · have hi : i < ls.length := by have := (List.getElem?_eq_some_iff.1 hu).1; simpa using this
    rw [hat i hi] at hu
    injection hu with hu
    rw [← hu]
    exact (hf i ls[i] (List.getElem?_eq_getElem hi)).1
  · have hi := (List.getElem?_eq_some_iff.1 hl).1
    obtain ⟨_, a', n', c', e1, e2, e3⟩ := hf i l hl
    exact ⟨a', n', c', by rw [hat i hi, e1], e2, e3⟩
set_option maxRecDepth 100000 in
theorem run_rows_all (ty : TypeId) (w0 w : World) (P : Nat → Prop) (b : Nat) (a : Option Addr) (n c : Nat) (ls : List (List Int)) (hrow : w.heap[b]? = some (.cells #[] 36 (0, 0))) (hr : RowsRd w0 P a n c ls) (hw : Below w0.heap.size w0 w) (hb : w0.heap.size ≤ b) (hn : n ≤ 1000000) :
    ∃ v' w', (Builtin.append_ #[28, 28] ty #[.slice (some ⟨b, 0, none⟩) 0 0, .slice a n c]).run Try.prog w = .ok v' w' ∧ RowsNew w' w0.heap.size P v' ls ∧ w.grownBy w' (some b) := by
  obtain ⟨i, hi, hz0, hz1, hz2⟩ := info_parts rowIR
  have hlen := hr.len
  have hown : w.ownsRow w0.heap.size 36 1 (.slice (some ⟨b, 0, none⟩) 0 0) 0 [] := ⟨rfl, .inr ⟨b, 0, #[], rfl, hb, hrow, Nat.le_refl _, by unfold maxLen; omega, rfl, rfl⟩⟩
  obtain ⟨vs, hv1, hv2, hv3⟩ := hr.vals w0.heap.size (Nat.le_refl _)
  have hdata : ∀ (w' : World), Below w0.heap.size w0 w' → ∀ (i : Nat) (l : List Int), ls[i]? = some l → ∃ a n c, vs[i]? = some (.slice a n c) ∧ RdAt .u8 w' a n c l ∧ ∀ x, a = some x → 0 < n → x.block < w0.heap.size ∧ ¬ P x.block := fun w' hw' i l hl => by
    obtain ⟨a', n', c', e1, e2, e3⟩ := hv3 i l hl
    exact ⟨a', n', c', e1, e2.below hw', e3⟩
  cases a with
  | none =>
    have hc : c = 0 := hr.void rfl
    have hcap := hr.cap
    subst hc
    obtain rfl : n = 0 := by omega
    obtain rfl : ls = [] := List.eq_nil_of_length_eq_zero hlen
    refine ⟨_, _, run_append_owned_none w w0.heap.size _ ty _ i 1 rowTR hi _ 0 [] hown, ⟨[], hown, rfl, fun i l h => by simp at h⟩, World.grownBy.refl _ _⟩
  | some x =>
    obtain ⟨v', w', h1, h2, h3, _, _⟩ := run_append_own_at w w0.heap.size _ ty 36 i (.slice none 0 0) 1 24 rowTR hi hz0 hz1 hz2 rfl (by decide) _ 0 [] hown x n c vs (by rw [hv1, hlen, Nat.mul_one]) (fun j u hu => by
      obtain ⟨b', o', e1, e2, e3, _⟩ := hv2 j u hu
      injection e1 with e1
      subst e1
      rw [Addr.add_lit, hw.cell e2]
      exact e3) (fun u hu => by
      obtain ⟨j, hj⟩ := List.getElem?_of_mem hu
      obtain ⟨_, _, _, _, _, e4⟩ := hv2 j u hj
      exact e4) (by unfold maxLen; omega) (by omega) hw.size
    refine ⟨v', w', h1, ⟨vs, ?_, hv1, hdata w' (hw.grown h3 hw.size (fun g hg => by have hg' : some b = some g := hg; injection hg' with hg'; omega))⟩, h3⟩
    rw [Nat.zero_add, List.nil_append] at h2
    rw [hlen]
    exact h2
set_option maxRecDepth 100000 in
theorem run_rows_one (ty : TypeId) (w0 w : World) (P : Nat → Prop) (v : Value) (q : Nat) (a : Option Addr) (n c : Nat) (l : List Int) (ls : List (List Int)) (hv : RowsNew w w0.heap.size P v ls) (hq : w.heap[q]? = some (.cells #[.slice a n c] 36 (0, 0))) (hr : RdAt .u8 w0 a n c l) (hp : ∀ x, a = some x → 0 < n → ¬ P x.block) (hw : Below w0.heap.size w0 w) (hn : ls.length ≤ 1000000) :
    ∃ v' w', (Builtin.append_ #[28, 28] ty #[v, .slice (some ⟨q, 0, none⟩) 1 1]).run Try.prog w = .ok v' w' ∧ RowsNew w' w0.heap.size P v' (ls ++ [l]) ∧ Below w0.heap.size w w' := by
  obtain ⟨i, hi, hz0, hz1, hz2⟩ := info_parts rowIR
  obtain ⟨vs, h1, h2, h3⟩ := hv.ex
  obtain ⟨v', w', e1, e2, e3, _, _⟩ := run_append_own_at w w0.heap.size _ ty 36 i (.slice none 0 0) 1 24 rowTR hi hz0 hz1 hz2 rfl (by decide) v ls.length vs h1 ⟨q, 0, none⟩ 1 1 [.slice a n c] rfl (fun j u hu => by
    cases j with
    | zero =>
      simp at hu
      subst hu
      rw [Addr.add_lit, cell_of_row w q _ _ _ _ hq]
      rfl
    | succ j => simp at hu) (fun u hu => by rw [List.mem_singleton.1 hu]; rfl) (by unfold maxLen; omega) (by omega) hw.size
  have hbw : Below w0.heap.size w w' := (Below.refl _ _).grown e3 hw.size (fun g hg => (h1.lt g hg).1)
  refine ⟨v', w', e1, ⟨vs ++ [.slice a n c], by rw [List.length_append]; exact e2, by simp [h2], fun j l' hl => ?_⟩, hbw⟩
  by_cases e : j < ls.length
  · rw [List.getElem?_append_left e] at hl
    obtain ⟨a', n', c', g1, g2, g3⟩ := h3 j l' hl
    refine ⟨a', n', c', by rw [List.getElem?_append_left (by rw [h2]; exact e)]; exact g1, rd_keepR g2 (fun x hx h0 => hbw.block _ (g3 x hx h0).1), g3⟩
  · have hj : j = ls.length := by
      have := (List.getElem?_eq_some_iff.1 hl).1
      simp at this
      omega
    subst hj
    simp at hl
    subst hl
    exact ⟨a, n, c, by rw [← h2]; simp, hr.below (hw.trans hbw), fun x hx h0 => ⟨rd_ltR hr x hx h0, hp x hx h0⟩⟩
section
variable {o : Oper} {t : Array Value} {ds : List Deferred} {K : Act → World → Prop} {Q : Exit → Act → World → Prop}
set_option maxRecDepth 100000 in
theorem wp_rowsapp (d : Tmp) (hd : o.dst = some d) (s x : Operand) (ho : o.op = .call { callee := .builtin .append, args := #[s, x], argTypes := #[28, 28] }) (w : World) (v vx : Value) {v' : Value} {w' : World} (hs : (Act.mk t ds).eval s = v) (hx : (Act.mk t ds).eval x = vx)
    (hrun : (Builtin.append_ #[28, 28] o.type #[v, vx]).run Try.prog w = .ok v' w') (h : K ⟨t.setIfInBounds d v', ds⟩ w') : Oper.wp Try.prog o ⟨t, ds⟩ w K Q := by
  refine wp_of_run d hd ?_ h
  unfold execOp
  simp only [ho, resolve, invoke, builtin, Sem.run_bind, Sem.run_pure, Result.andThen_ok, List.map_toArray, List.map_cons, List.map_nil, hs, hx, hrun]
end
end Go.Proofs.Ytlhpdkapddnbcaa
