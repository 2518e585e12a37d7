/- Bytes as an operation (Decode). Plain laws: ReadVar undoes Var. No program in sight. An operation's bytes are read as that operation, plainly. The walk of almanaclaw18.ModelBytes. ModelBytes: for every input the law returns true, and every argument reads as it did: the row round the walk. -/
import Derived.Test.YtnbjodoajfkekaaGreatMb1
import Derived.Test.YtnbjodoajfkekaaGreatMb2
import Derived.WalkKit
import Derived.ProofKit
import Derived.BigQuiet
import Derived.Deep.QuietTactic
import Derived.Lib.Hide
import Derived.RegionTactic
import Derived.Test.YtnbjodoajfkekaaGreatMj25
import Derived.Test.YtnbjodoajfkekaaGreatMj19
import Derived.Test.YtnbjodoajfkekaaGreatRows
import Derived.OpenShut
import Derived.ShutString
import Derived.ChangeOld
import Derived.Below
namespace Go.Proofs.YtnbjodoajfkekaaGreat
open Go.RowKit
set_option linter.unusedSimpArgs false
def nx (s : Int × List Int) : Rd Int := rdFrom s.1 0 s.2 (rdInt s.2)
def stN : Nat → List Int → Int × List Int
  | 0, b => (0, b)
  | k + 1, b => ((nx (stN k b)).e, (nx (stN k b)).l)
def vaN (k : Nat) (b : List Int) : Int := (nx (stN k b)).v
def bsD (b : List Int) : Rd (List Int) := rdFrom (stN 5 b).1 [] (stN 5 b).2 (rdBytes 1048576 (stN 5 b).2)
def opD (b : List Int) : OpP := ⟨vaN 0 b, vaN 1 b, vaN 2 b, vaN 3 b, vaN 4 b, (bsD b).v⟩
def decE (b : List Int) : Int := if rdEnd (bsD b).e (bsD b).l = 0 ∧ rightOp (opD b).o = true then 0 else 22
def decV (b : List Int) : OpP := if decE b = 0 then opD b else ⟨0, 0, 0, 0, 0, []⟩
theorem nx_len (s : Int × List Int) : (nx s).l.length ≤ s.2.length := by
  unfold nx rdFrom
  split
  · exact Nat.le_refl _
  · by_cases h0 : rvE s.2 s.2.length = 0
    · rw [rdInt_ok h0]
      simp
    · rw [rdInt_bad h0]
      exact Nat.le_refl _
theorem stN_len (b : List Int) : ∀ k, (stN k b).2.length ≤ b.length
  | 0 => Nat.le_refl _
  | k + 1 => Nat.le_trans (nx_len (stN k b)) (stN_len b k)
set_option maxHeartbeats 2000000 in
set_option maxRecDepth 100000 in
theorem decode_any (a : Option Addr) (n c : Nat) (b : List Int) (w : World) (hr : RdAt .u8 w a n c b) (hn : n ≤ 1000000) :
    Calls Tryz.prog 21 #[.slice a n c] w fun e w' => ∃ a' n' c', e = .returned (.tuple #[.agg #[.int .i64 (decV b).kind, .int .i64 (decV b).pid, .int .i64 (decV b).at_, .int .i64 (decV b).n, .int .i64 (decV b).prot, .slice a' n' c'], .int .i64 (decE b)]) ∧ RdAt .u8 w' a' n' c' (decV b).data ∧ Below w.heap.size w w' := by
  have hrow := heap_alloc_new w (.cells #[.int .i64 0, .int .i64 0, .int .i64 0, .int .i64 0, .int .i64 0, .slice none 0 0] 38)
  have hba := below_a w (.cells #[.int .i64 0, .int .i64 0, .int .i64 0, .int .i64 0, .int .i64 0, .slice none 0 0] 38)
  have hrA := hr.below hba
  have hlb : b.length ≤ 1000000 := by have := hr.len; omega
  obtain ⟨wA, hwA⟩ : ∃ x, w.alloc (.cells #[.int .i64 0, .int .i64 0, .int .i64 0, .int .i64 0, .int .i64 0, .slice none 0 0] 38) = x := ⟨_, rfl⟩
  obtain ⟨rb, hrb⟩ : ∃ x, w.heap.size = x := ⟨_, rfl⟩
  rw [hwA] at hba hrow hrA
  rw [hrb] at hrow hba ⊢
  have HBA := Lib.hid hba
  have HROW := Lib.hid hrow
  have HWA := Lib.hid hwA
  have HRA := Lib.hid hrA
  have HLB := Lib.hid hlb
  have HRB := Lib.hid hrb
  clear hba hrow hwA hr hrA hlb hrb
  go_enter Tryz.func21, Tryz.ntmps21
  go_wp2_with fail
  rw [HWA.out, HRB.out]
  refine (newreader_any a n c b wA HRA.out (by omega)).mono ?_
  rintro e w2 ⟨h, rfl, hh, hr2, hb2⟩
  have HH : Hid (rb < h) := by have h1 := (Array.getElem?_eq_some_iff.1 HROW.out).1; show _ < _; omega
  have HR0 : Hid (RIn wA.heap.size w2 h (stN 0 b).2 (stN 0 b).1) := hr2
  have HZ0 := Lib.hid (row_keep HROW.out hb2)
  have HB0 : Hid (Below rb w w2) := HBA.out.trans (hb2.mono (Nat.le_of_lt (Array.getElem?_eq_some_iff.1 HROW.out).1))
  clear hr2 hb2 hh
  have HC0 := Lib.hid (rInt_any h (stN 0 b).2 (stN 0 b).1 w2 HR0.out)
  go_wp2_with fail
  refine HC0.out.mono ?_
  rintro e x0 ⟨hg, hr, v, rfl, hv⟩
  replace hv : v = .int .i64 (vaN 0 b) := hv
  subst hv
  have HR1 : Hid (RIn wA.heap.size x0 h (stN 1 b).2 (stN 1 b).1) := hr
  have HZ1 := Lib.hid ((hg.block rb (Array.getElem?_eq_some_iff.1 HZ0.out).1 (fun e => by injection e with e; have := HH.out; omega)).trans HZ0.out)
  have HB1 : Hid (Below rb w x0) := Below.grown HB0.out hg (by have h1 := HB0.out.size; have h2 := HRB.out; omega) (fun q e => by injection e with e; have := HH.out; omega)
  clear hg hr HC0
  have HC1 := Lib.hid (rInt_any h (stN 1 b).2 (stN 1 b).1 x0 HR1.out)
  go_wp2_with fail
  refine HC1.out.mono ?_
  rintro e x1 ⟨hg, hr, v, rfl, hv⟩
  replace hv : v = .int .i64 (vaN 1 b) := hv
  subst hv
  have HR2 : Hid (RIn wA.heap.size x1 h (stN 2 b).2 (stN 2 b).1) := hr
  have HZ2 := Lib.hid ((hg.block rb (Array.getElem?_eq_some_iff.1 HZ1.out).1 (fun e => by injection e with e; have := HH.out; omega)).trans HZ1.out)
  have HB2 : Hid (Below rb w x1) := Below.grown HB1.out hg (by have h1 := HB1.out.size; have h2 := HRB.out; omega) (fun q e => by injection e with e; have := HH.out; omega)
  clear hg hr HC1
  have HC2 := Lib.hid (rInt_any h (stN 2 b).2 (stN 2 b).1 x1 HR2.out)
  go_wp2_with fail
  refine HC2.out.mono ?_
  rintro e x2 ⟨hg, hr, v, rfl, hv⟩
  replace hv : v = .int .i64 (vaN 2 b) := hv
  subst hv
  have HR3 : Hid (RIn wA.heap.size x2 h (stN 3 b).2 (stN 3 b).1) := hr
  have HZ3 := Lib.hid ((hg.block rb (Array.getElem?_eq_some_iff.1 HZ2.out).1 (fun e => by injection e with e; have := HH.out; omega)).trans HZ2.out)
  have HB3 : Hid (Below rb w x2) := Below.grown HB2.out hg (by have h1 := HB2.out.size; have h2 := HRB.out; omega) (fun q e => by injection e with e; have := HH.out; omega)
  clear hg hr HC2
  have HC3 := Lib.hid (rInt_any h (stN 3 b).2 (stN 3 b).1 x2 HR3.out)
  go_wp2_with fail
  refine HC3.out.mono ?_
  rintro e x3 ⟨hg, hr, v, rfl, hv⟩
  replace hv : v = .int .i64 (vaN 3 b) := hv
  subst hv
  have HR4 : Hid (RIn wA.heap.size x3 h (stN 4 b).2 (stN 4 b).1) := hr
  have HZ4 := Lib.hid ((hg.block rb (Array.getElem?_eq_some_iff.1 HZ3.out).1 (fun e => by injection e with e; have := HH.out; omega)).trans HZ3.out)
  have HB4 : Hid (Below rb w x3) := Below.grown HB3.out hg (by have h1 := HB3.out.size; have h2 := HRB.out; omega) (fun q e => by injection e with e; have := HH.out; omega)
  clear hg hr HC3
  have HC4 := Lib.hid (rInt_any h (stN 4 b).2 (stN 4 b).1 x3 HR4.out)
  go_wp2_with fail
  refine HC4.out.mono ?_
  rintro e x4 ⟨hg, hr, v, rfl, hv⟩
  replace hv : v = .int .i64 (vaN 4 b) := hv
  subst hv
  have HR5 : Hid (RIn wA.heap.size x4 h (stN 5 b).2 (stN 5 b).1) := hr
  have HZ5 := Lib.hid ((hg.block rb (Array.getElem?_eq_some_iff.1 HZ4.out).1 (fun e => by injection e with e; have := HH.out; omega)).trans HZ4.out)
  have HB5 : Hid (Below rb w x4) := Below.grown HB4.out hg (by have h1 := HB4.out.size; have h2 := HRB.out; omega) (fun q e => by injection e with e; have := HH.out; omega)
  clear hg hr HC4
  have hrow := heap_alloc_new x4 (.cells #[.int .i64 (vaN 0 b), .int .i64 (vaN 1 b), .int .i64 (vaN 2 b), .int .i64 (vaN 3 b), .int .i64 (vaN 4 b), .slice none 0 0] 38)
  have hba := below_a x4 (.cells #[.int .i64 (vaN 0 b), .int .i64 (vaN 1 b), .int .i64 (vaN 2 b), .int .i64 (vaN 3 b), .int .i64 (vaN 4 b), .slice none 0 0] 38)
  obtain ⟨wB, hwB⟩ : ∃ x, x4.alloc (.cells #[.int .i64 (vaN 0 b), .int .i64 (vaN 1 b), .int .i64 (vaN 2 b), .int .i64 (vaN 3 b), .int .i64 (vaN 4 b), .slice none 0 0] 38) = x := ⟨_, rfl⟩
  obtain ⟨tb, htb⟩ : ∃ x, x4.heap.size = x := ⟨_, rfl⟩
  rw [hwB] at hba hrow
  rw [htb] at hrow
  have hht : h < tb := by rw [← htb]; exact HR5.out.lt
  have hbt : Below x4.heap.size x4 wB := hba
  have HT := Lib.hid hht
  have HWB := Lib.hid hwB
  have HTB := Lib.hid htb
  have HRB2 : Hid (RIn wA.heap.size wB h (stN 5 b).2 (stN 5 b).1) := HR5.out.below hbt
  have HZB := Lib.hid (row_keep HZ5.out hba)
  have HBB := Lib.hid (HB5.out.trans (hba.mono (by have h1 := HB5.out.size; have h2 := HRB.out; omega)))
  have HBX := Lib.hid hrow
  have HCB := Lib.hid (rBytes_any h 1048576 (stN 5 b).2 (stN 5 b).1 wB HRB2.out (Nat.le_trans (stN_len b 5) HLB.out))
  clear hba hrow hwB htb hht hbt
  go_wp2_with fail
  rw [HWB.out, HTB.out]
  refine HCB.out.mono ?_
  rintro e wD ⟨hg, hr, v, rfl, hv⟩
  replace hv : Owns .u8 5 wD wB.heap.size v (bsD b).v := hv
  obtain ⟨n9, hn9⟩ : ∃ x, (bsD b).v.length = x := ⟨_, rfl⟩
  obtain ⟨a9, c9, rfl⟩ := hv.shapeN n9 hn9
  have HN9 := Lib.hid hn9
  have htl : tb < wB.heap.size := (Array.getElem?_eq_some_iff.1 HBX.out).1
  have hrtb : rb < tb := by have h1 := HH.out; have h2 := HT.out; omega
  have HRD : Hid (RIn wA.heap.size wD h (bsD b).l (bsD b).e) := hr
  have HZD := Lib.hid ((hg.block rb (by omega) (fun e => by injection e with e; have := HH.out; omega)).trans HZB.out)
  have hbxd := (hg.block tb htl (fun e => by injection e with e; have := HT.out; omega)).trans HBX.out
  have HBD : Hid (Below rb w wD) := Below.grown HBB.out hg (by have h1 := HBB.out.size; have h2 := HRB.out; omega) (fun q e => by injection e with e; have := HH.out; omega)
  obtain ⟨wC, hwC⟩ : ∃ x, sets wD tb [(5, .slice a9 n9 c9)] = x := ⟨_, rfl⟩
  have hg2 := sets_grown (b := tb) [(5, .slice a9 n9 c9)] wD
  have hr7 := sets_row [(5, .slice a9 n9 c9)] hbxd
  have hfz : wD.frozen? ⟨tb, 5, none⟩ = false := frozen_of_row wD tb 5 _ _ hbxd
  rw [hwC] at hg2 hr7
  replace hr7 : wC.heap[tb]? = some (.cells #[.int .i64 (vaN 0 b), .int .i64 (vaN 1 b), .int .i64 (vaN 2 b), .int .i64 (vaN 3 b), .int .i64 (vaN 4 b), .slice a9 n9 c9] 38 (0, 0)) := hr7
  have HRC := Lib.hid (HRD.out.grown hg2 (fun k e => by injection e with e; have := HT.out; omega))
  have HZC := Lib.hid ((hg2.block rb (Array.getElem?_eq_some_iff.1 HZD.out).1 (fun e => by injection e with e; omega)).trans HZD.out)
  have HOC := Lib.hid (hv.grown hg2 (fun g h1 e => by have h2 := (hv.at_base g h1).1; injection e with e; omega))
  have HBC : Hid (Below rb w wC) := Below.grown HBD.out hg2 (by have h1 := HBD.out.size; have h2 := HRB.out; omega) (fun q e => by injection e with e; omega)
  have HBXC := Lib.hid hr7
  have HEN := Lib.hid (rEnd_any h (bsD b).l (bsD b).e wC HRC.out)
  obtain ⟨E, hE⟩ : ∃ x, rdEnd (bsD b).e (bsD b).l = x := ⟨_, rfl⟩
  rw [hE] at HEN
  have HE := Lib.hid hE
  have q5 := cell_of_row wD tb 5 _ _ _ hbxd
  replace hwC : wD.setCell ⟨tb, 5, none⟩ (.slice a9 n9 c9) = wC := hwC
  have HRTB := Lib.hid hrtb
  have HTL := Lib.hid htl
  clear hg hr hv hn9 htl hrtb hbxd hg2 hr7 hE HCB
  go_wp2_with (rw [hwC])
  refine HEN.out.mono ?_
  rintro e wC' ⟨rfl, rfl⟩
  clear hfz q5 hwC
  by_cases h0 : E = 0
  · subst h0
    have HCR := Lib.hid (opright_any (dc := c9) (w := wC) a9 n9 (opD b).o HN9.out)
    obtain ⟨RO, hRO⟩ : ∃ x, rightOp (opD b).o = x := ⟨_, rfl⟩
    rw [hRO] at HCR
    have HRO := Lib.hid hRO
    obtain ⟨p0, p1, p2, p3, p4, p5⟩ := cells6 HBXC.out
    unfold opD OpP.o at HCR
    clear hRO
    go_wp2_with fail
    refine HCR.out.mono ?_
    rintro e w8 ⟨rfl, hb8⟩
    have HZ8 := Lib.hid (row_keep HZC.out hb8)
    have HB8 : Hid (Below rb w w8) := HBC.out.trans (hb8.mono (by have h1 := HBC.out.size; have h2 := HRB.out; omega))
    have HO8 := Lib.hid (HOC.out.below hb8)
    have HBX8 := Lib.hid (row_keep HBXC.out hb8)
    have hfz : ∀ i, w8.frozen? ⟨rb, i, none⟩ = false := fun i => frozen_of_row w8 rb i _ _ HZ8.out
    obtain ⟨y0, y1, y2, y3, y4, y5⟩ := cells6 HZ8.out
    clear p0 p1 p2 p3 p4 p5 hb8 HCR
    cases RO with
    | true =>
      have hEE : decE b = 0 := by unfold decE; rw [if_pos ⟨HE.out, HRO.out⟩]
      have hVV : decV b = opD b := by unfold decV; rw [if_pos hEE]
      obtain ⟨p0, p1, p2, p3, p4, p5⟩ := cells6 HBX8.out
      go_wp2_with fail
      change bodyPost _ _ _ _ _ (sets w8 rb [(0, .int .i64 (vaN 0 b)), (1, .int .i64 (vaN 1 b)), (2, .int .i64 (vaN 2 b)), (3, .int .i64 (vaN 3 b)), (4, .int .i64 (vaN 4 b)), (5, .slice a9 n9 c9)])
      have hrF := sets_row [(0, .int .i64 (vaN 0 b)), (1, .int .i64 (vaN 1 b)), (2, .int .i64 (vaN 2 b)), (3, .int .i64 (vaN 3 b)), (4, .int .i64 (vaN 4 b)), (5, .slice a9 n9 c9)] HZ8.out
      have hgr := sets_grown (b := rb) [(0, .int .i64 (vaN 0 b)), (1, .int .i64 (vaN 1 b)), (2, .int .i64 (vaN 2 b)), (3, .int .i64 (vaN 3 b)), (4, .int .i64 (vaN 4 b)), (5, .slice a9 n9 c9)] w8
      have hbel : Below rb w (sets w8 rb [(0, .int .i64 (vaN 0 b)), (1, .int .i64 (vaN 1 b)), (2, .int .i64 (vaN 2 b)), (3, .int .i64 (vaN 3 b)), (4, .int .i64 (vaN 4 b)), (5, .slice a9 n9 c9)]) := Below.grown HB8.out hgr (by have h1 := HB8.out.size; have h2 := HRB.out; omega) (fun q e => by injection e with e; omega)
      obtain ⟨w9, hw9⟩ : ∃ x, sets w8 rb [(0, .int .i64 (vaN 0 b)), (1, .int .i64 (vaN 1 b)), (2, .int .i64 (vaN 2 b)), (3, .int .i64 (vaN 3 b)), (4, .int .i64 (vaN 4 b)), (5, .slice a9 n9 c9)] = x := ⟨_, rfl⟩
      rw [hw9] at hrF hgr hbel ⊢
      replace hrF : w9.heap[rb]? = some (.cells #[.int .i64 (vaN 0 b), .int .i64 (vaN 1 b), .int .i64 (vaN 2 b), .int .i64 (vaN 3 b), .int .i64 (vaN 4 b), .slice a9 n9 c9] 38 (0, 0)) := hrF
      obtain ⟨r0, r1, r2, r3, r4, r5⟩ := cells6 hrF
      have hrd : RdAt .u8 w9 a9 n9 c9 (bsD b).v := (HO8.out.grown hgr (fun g h1 e => by have h2 := (HO8.out.at_base g h1).1; have h3 := HRTB.out; have h4 := HTL.out; injection e with e; omega)).rd
      refine bodyPost_ret (v := .tuple #[.agg #[.int .i64 (vaN 0 b), .int .i64 (vaN 1 b), .int .i64 (vaN 2 b), .int .i64 (vaN 3 b), .int .i64 (vaN 4 b), .slice a9 n9 c9], .int .i64 0]) (by simp [results, Tryz.results21, go_sem, r0, r1, r2, r3, r4, r5]) rfl ?_
      rw [hEE, hVV]
      exact ⟨_, _, _, rfl, hrd, hbel⟩
    | false =>
      have hEE : decE b = 22 := by unfold decE; rw [if_neg (fun e => by rw [HRO.out] at e; cases e.2)]
      have hVV : decV b = ⟨0, 0, 0, 0, 0, []⟩ := by unfold decV; rw [if_neg (by rw [hEE]; decide)]
      go_wp2_with fail
      change bodyPost _ _ _ _ _ (sets w8 rb [(0, .int .i64 0), (1, .int .i64 0), (2, .int .i64 0), (3, .int .i64 0), (4, .int .i64 0), (5, .slice none 0 0)])
      have hrF := sets_row [(0, .int .i64 0), (1, .int .i64 0), (2, .int .i64 0), (3, .int .i64 0), (4, .int .i64 0), (5, .slice none 0 0)] HZ8.out
      have hgr := sets_grown (b := rb) [(0, .int .i64 0), (1, .int .i64 0), (2, .int .i64 0), (3, .int .i64 0), (4, .int .i64 0), (5, .slice none 0 0)] w8
      have hbel : Below rb w (sets w8 rb [(0, .int .i64 0), (1, .int .i64 0), (2, .int .i64 0), (3, .int .i64 0), (4, .int .i64 0), (5, .slice none 0 0)]) := Below.grown HB8.out hgr (by have h1 := HB8.out.size; have h2 := HRB.out; omega) (fun q e => by injection e with e; omega)
      obtain ⟨w9, hw9⟩ : ∃ x, sets w8 rb [(0, .int .i64 0), (1, .int .i64 0), (2, .int .i64 0), (3, .int .i64 0), (4, .int .i64 0), (5, .slice none 0 0)] = x := ⟨_, rfl⟩
      rw [hw9] at hrF hgr hbel ⊢
      replace hrF : w9.heap[rb]? = some (.cells #[.int .i64 0, .int .i64 0, .int .i64 0, .int .i64 0, .int .i64 0, .slice none 0 0] 38 (0, 0)) := hrF
      obtain ⟨r0, r1, r2, r3, r4, r5⟩ := cells6 hrF
      skip
      refine bodyPost_ret (v := .tuple #[.agg #[.int .i64 0, .int .i64 0, .int .i64 0, .int .i64 0, .int .i64 0, .slice none 0 0], .int .i64 22]) (by simp [results, Tryz.results21, go_sem, r0, r1, r2, r3, r4, r5]) rfl ?_
      rw [hEE, hVV]
      exact ⟨_, _, _, rfl, RdAt.nil _ _, hbel⟩
  · have hne : (E != 0) = true := by simpa using h0
    have hne2 : (E == 0) = false := by simpa using h0
    have hEE : decE b = 22 := by unfold decE; rw [if_neg (fun e => h0 (by rw [← HE.out]; exact e.1))]
    have hVV : decV b = ⟨0, 0, 0, 0, 0, []⟩ := by unfold decV; rw [if_neg (by rw [hEE]; decide)]
    have hfz : ∀ i, wC.frozen? ⟨rb, i, none⟩ = false := fun i => frozen_of_row wC rb i _ _ HZC.out
    obtain ⟨y0, y1, y2, y3, y4, y5⟩ := cells6 HZC.out
    clear h0
    go_wp2_with fail
    change bodyPost _ _ _ _ _ (sets wC rb [(0, .int .i64 0), (1, .int .i64 0), (2, .int .i64 0), (3, .int .i64 0), (4, .int .i64 0), (5, .slice none 0 0)])
    have hrF := sets_row [(0, .int .i64 0), (1, .int .i64 0), (2, .int .i64 0), (3, .int .i64 0), (4, .int .i64 0), (5, .slice none 0 0)] HZC.out
    have hgr := sets_grown (b := rb) [(0, .int .i64 0), (1, .int .i64 0), (2, .int .i64 0), (3, .int .i64 0), (4, .int .i64 0), (5, .slice none 0 0)] wC
    have hbel : Below rb w (sets wC rb [(0, .int .i64 0), (1, .int .i64 0), (2, .int .i64 0), (3, .int .i64 0), (4, .int .i64 0), (5, .slice none 0 0)]) := Below.grown HBC.out hgr (by have h1 := HBC.out.size; have h2 := HRB.out; omega) (fun q e => by injection e with e; omega)
    obtain ⟨w9, hw9⟩ : ∃ x, sets wC rb [(0, .int .i64 0), (1, .int .i64 0), (2, .int .i64 0), (3, .int .i64 0), (4, .int .i64 0), (5, .slice none 0 0)] = x := ⟨_, rfl⟩
    rw [hw9] at hrF hgr hbel ⊢
    replace hrF : w9.heap[rb]? = some (.cells #[.int .i64 0, .int .i64 0, .int .i64 0, .int .i64 0, .int .i64 0, .slice none 0 0] 38 (0, 0)) := hrF
    obtain ⟨r0, r1, r2, r3, r4, r5⟩ := cells6 hrF
    skip
    refine bodyPost_ret (v := .tuple #[.agg #[.int .i64 0, .int .i64 0, .int .i64 0, .int .i64 0, .int .i64 0, .slice none 0 0], .int .i64 22]) (by simp [results, Tryz.results21, go_sem, r0, r1, r2, r3, r4, r5]) rfl ?_
    rw [hEE, hVV]
    exact ⟨_, _, _, rfl, RdAt.nil _ _, hbel⟩
end Go.Proofs.YtnbjodoajfkekaaGreat

namespace Go.Proofs.YtnbjodoajfkekaaGreat
open Go.RowKit
theorem bk_zero (x : Int) (t : List Int) : nth (x :: t) 0 = x := rfl
theorem bk_succ (x : Int) (t : List Int) (j : Nat) : nth (x :: t) (j + 1) = nth t j := by simp [nth, List.getD]
theorem bk_app {l r : List Int} {j : Nat} (h : j < l.length) : nth (l ++ r) j = nth l j := by simp [nth, List.getD, List.getElem?_append_left h]
theorem valFrom_cons (x : Int) (t : List Int) : ∀ (n i : Nat), valFrom (x :: t) (i + 1) n = valFrom t i n
  | 0, _ => rfl
  | n + 1, i => by rw [valFrom, valFrom, valFrom_cons x t n (i + 1), bk_succ]
theorem valK_congr {l r : List Int} : ∀ (n : Nat), (∀ j, j < n → nth l j = nth r j) → valK l n = valK r n
  | 0, _ => rfl
  | n + 1, h => by rw [valK, valK, valK_congr n (fun j hj => h j (by omega)), h n (by omega)]

def VarOk (A : List Int) (v : Int) : Prop :=
    (∀ j, j + 1 < A.length → 128 ≤ nth A j) ∧ nth A (A.length - 1) < 128 ∧ nth A (A.length - 1) = v / 2 ^ (7 * (A.length - 1)) ∧
    (1 < A.length → nth A (A.length - 1) ≠ 0) ∧ valFrom A 0 A.length = v ∧ 1 ≤ A.length
theorem VarOk.one {v : Int} (h0 : 0 ≤ v) (h1 : v < 128) : VarOk [v] v := by
  unfold VarOk
  simp [nth, valFrom]; omega
theorem VarOk.step {A : List Int} {v : Int} (h : 128 ≤ v) (hA : VarOk A (v / 128)) : VarOk ((v % 128 + 128) :: A) v := by
  obtain ⟨i1, i2, i3, i4, i5, hl⟩ := hA
  unfold VarOk
  rw [List.length_cons]
  generalize A.length = L at *
  have e1 : L + 1 - 1 = (L - 1) + 1 := by omega
  rw [e1]
  refine ⟨fun j hj => ?_, ?_, ?_, fun _ => ?_, ?_, by omega⟩
  · cases j with
    | zero => rw [bk_zero]; omega
    | succ j => rw [bk_succ]; exact i1 j (by omega)
  · rw [bk_succ]; exact i2
  · rw [bk_succ, i3, show 7 * (L - 1 + 1) = 7 + 7 * (L - 1) by omega, Int.pow_add, ← Int.ediv_ediv_of_nonneg (Int.pow_nonneg (by decide))]
    rfl
  · rw [bk_succ]
    by_cases hL1 : 1 < L
    · exact i4 hL1
    · rw [i3, show L - 1 = 0 by omega]; simp; omega
  · rw [valFrom, bk_zero, valFrom_cons, i5]; omega
theorem varF_spec (f : Nat) : ∀ (v : Int), 0 ≤ v → v < 2 ^ (7 * f + 7) → VarOk (varF f v) v := by
  induction f with
  | zero => intro v h0 hb; exact VarOk.one h0 (by simpa using hb)
  | succ f ih =>
    intro v h0 hb
    by_cases h : 128 ≤ v
    · rw [varF_step f v h]
      exact VarOk.step h (ih (v / 128) (by omega) (by rw [show 7 * (f + 1) + 7 = 7 * f + 7 + 7 by omega, Int.pow_add] at hb; omega))
    · rw [varF_last _ _ (by omega)]
      exact VarOk.one h0 (by omega)

/-- ReadVar tells what Var laid, whatever stands behind it. -/
theorem readvar_var (u : Int) (h0 : 0 ≤ u) (h1 : u ≤ 18446744073709551615) (more : List Int) (N : Nat) (hN : N = (varF 9 u ++ more).length) :
    rvV (varF 9 u ++ more) N = u ∧ rvN (varF 9 u ++ more) N = (varF 9 u).length ∧ rvE (varF 9 u ++ more) N = 0 := by
  obtain ⟨i1, i2, i3, i4, i5, _⟩ := varF_spec 9 u h0 (by omega)
  obtain ⟨l1, l2⟩ := varF_len 9 u
  generalize hA : varF 9 u = A at *
  generalize hL : A.length = L at *
  rw [List.length_append, hL] at hN
  have hn (j : Nat) (hj : j < L) : nth (A ++ more) j = nth A j := bk_app (by omega)
  have hlead : lead (A ++ more) N = L - 1 := lead_at (by omega) (fun j hj => ⟨by omega, by rw [hn j (by omega)]; exact i1 j (by omega)⟩) (by rw [hn _ (by omega)]; omega)
  have h9 : L - 1 = 9 → nth A (L - 1) ≤ 1 := fun h => by rw [i3, h]; simp; omega
  obtain ⟨r1, r2, r3⟩ := rv_ok hlead (by omega) (by omega) (by rw [hn _ (by omega)]; intro ⟨a, b⟩; exact i4 (by omega) b) (by rw [hn _ (by omega)]; intro ⟨a, b⟩; have := h9 a; omega)
  refine ⟨?_, ?_, r3⟩
  · rw [r1, show L - 1 + 1 = L by omega, valK_congr L (fun j hj => hn j hj), ← valFrom_zero]; exact i5
  · rw [r2]; omega

end Go.Proofs.YtnbjodoajfkekaaGreat

namespace Go.Proofs.YtnbjodoajfkekaaGreat
open Go.RowKit
set_option linter.unusedSimpArgs false
theorem rdInt_varF {x : Int} (h1 : -9223372036854775808 ≤ x) (h2 : x ≤ 9223372036854775807) (more : List Int) : rdInt (varF 9 (zigI x) ++ more) = ⟨0, x, more⟩ := by
  have hz := zigI_bd x h1 h2
  obtain ⟨r1, r2, r3⟩ := readvar_var (zigI x) hz.1 hz.2 more _ rfl
  rw [rdInt_ok r3, r1, r2, zag_zig, Int.toNat_natCast, List.drop_left]
theorem rdBetween_varF {n : Nat} {most : Int} (hm : (n : Int) ≤ most) (hn : n ≤ 1000000) (more : List Int) : rdBetween 0 most (varF 9 (zigI n) ++ more) = ⟨0, n, more⟩ := by
  unfold rdBetween
  rw [rdInt_varF (by omega) (by omega), if_neg (by simp), if_neg (by show ¬ ((n : Int) < 0 ∨ most < n); omega)]
theorem rdBytes_all {bs : List Int} {most : Int} (hm : (bs.length : Int) ≤ most) (hn : bs.length ≤ 1000000) : rdBytes most (encI bs.length ++ bs) = ⟨0, bs, []⟩ := by
  unfold rdBytes encI
  rw [rdBetween_varF hm hn, if_neg (by simp), if_neg (by show ¬ ((bs.length : Nat) : Int) < bs.length; omega)]
  show (⟨0, bs.take (bs.length : Int).toNat, bs.drop (bs.length : Int).toNat⟩ : Rd (List Int)) = _
  rw [Int.toNat_natCast, List.take_length, List.drop_length]
theorem nx_enc {x : Int} (h : (Lit.int .i64 x).wf = true) (r : List Int) : nx (0, encI x ++ r) = ⟨0, x, r⟩ := by
  have := i64_bd h
  unfold nx encI
  rw [rdFrom_ok]
  exact rdInt_varF this.1 this.2 r
theorem dec_enc (T : OpP) (hw : (Lit.int .i64 T.kind).wf = true ∧ (Lit.int .i64 T.pid).wf = true ∧ (Lit.int .i64 T.at_).wf = true ∧ (Lit.int .i64 T.n).wf = true ∧ (Lit.int .i64 T.prot).wf = true) (hl : T.data.length ≤ 16384) (hr : rightOp T.o = true) : decE (encO T) = 0 ∧ decV (encO T) = T := by
  obtain ⟨B, hB⟩ : ∃ x, encO T = x := ⟨_, rfl⟩
  have e : B = encI T.kind ++ (encI T.pid ++ (encI T.at_ ++ (encI T.n ++ (encI T.prot ++ (encI T.data.length ++ T.data))))) := by
    rw [← hB]
    unfold encO enc5
    simp only [List.append_assoc]
  rw [hB]
  have n0 : nx (stN 0 B) = ⟨0, T.kind, encI T.pid ++ (encI T.at_ ++ (encI T.n ++ (encI T.prot ++ (encI T.data.length ++ T.data))))⟩ := by
    show nx (0, B) = _
    rw [e]
    exact nx_enc hw.1 _
  have s1 : stN 1 B = (0, encI T.pid ++ (encI T.at_ ++ (encI T.n ++ (encI T.prot ++ (encI T.data.length ++ T.data))))) := by rw [stN, n0]
  have n1 : nx (stN 1 B) = ⟨0, T.pid, encI T.at_ ++ (encI T.n ++ (encI T.prot ++ (encI T.data.length ++ T.data)))⟩ := by rw [s1]; exact nx_enc hw.2.1 _
  have s2 : stN 2 B = (0, encI T.at_ ++ (encI T.n ++ (encI T.prot ++ (encI T.data.length ++ T.data)))) := by rw [stN, n1]
  have n2 : nx (stN 2 B) = ⟨0, T.at_, encI T.n ++ (encI T.prot ++ (encI T.data.length ++ T.data))⟩ := by rw [s2]; exact nx_enc hw.2.2.1 _
  have s3 : stN 3 B = (0, encI T.n ++ (encI T.prot ++ (encI T.data.length ++ T.data))) := by rw [stN, n2]
  have n3 : nx (stN 3 B) = ⟨0, T.n, encI T.prot ++ (encI T.data.length ++ T.data)⟩ := by rw [s3]; exact nx_enc hw.2.2.2.1 _
  have s4 : stN 4 B = (0, encI T.prot ++ (encI T.data.length ++ T.data)) := by rw [stN, n3]
  have n4 : nx (stN 4 B) = ⟨0, T.prot, encI T.data.length ++ T.data⟩ := by rw [s4]; exact nx_enc hw.2.2.2.2 _
  have s5 : stN 5 B = (0, encI T.data.length ++ T.data) := by rw [stN, n4]
  have hb : bsD B = ⟨0, T.data, []⟩ := by
    unfold bsD
    rw [s5, rdFrom_ok]
    exact rdBytes_all (by omega) (by omega)
  have ho : opD B = T := by
    unfold opD vaN
    rw [n0, n1, n2, n3, n4, hb]
  have hE : decE B = 0 := by
    unfold decE
    rw [hb, ho, if_pos ⟨by unfold rdEnd; simp, hr⟩]
  exact ⟨hE, by unfold decV; rw [if_pos hE, ho]⟩
theorem dec_right (b : List Int) (h : decE b = 0) : rightOp (decV b).o = true := by
  unfold decV
  rw [if_pos h]
  unfold decE at h
  split at h
  · rename_i h1; exact h1.2
  · cases h
theorem dec_bad (b : List Int) (h : decE b ≠ 0) : decE b = 22 ∧ decV b = ⟨0, 0, 0, 0, 0, []⟩ := by
  refine ⟨?_, by unfold decV; rw [if_neg h]⟩
  unfold decE at *
  split
  · rename_i h1; rw [if_pos h1] at h; exact absurd rfl h
  · rfl
end Go.Proofs.YtnbjodoajfkekaaGreat

namespace Go.Proofs.YtnbjodoajfkekaaGreat
open Go.RowKit
set_option linter.unusedSimpArgs false
set_option maxHeartbeats 4000000 in
set_option maxRecDepth 100000 in
theorem modelBytes_walk (T : OpP) (ta : Option Addr) (tn tc : Nat) (a : Option Addr) (n c : Nat) (b : List Int) (w : World) (hT : RdAt .u8 w ta tn tc T.data) (hw : (Lit.int .i64 T.kind).wf = true ∧ (Lit.int .i64 T.pid).wf = true ∧ (Lit.int .i64 T.at_).wf = true ∧ (Lit.int .i64 T.n).wf = true ∧ (Lit.int .i64 T.prot).wf = true) (hr : RdAt .u8 w a n c b) :
    Calls Tryz.prog 4 #[.agg #[.int .i64 T.kind, .int .i64 T.pid, .int .i64 T.at_, .int .i64 T.n, .int .i64 T.prot, .slice ta tn tc], .slice a n c] w fun e w' => e = .returned (.bool true) ∧ Below w.heap.size w w' := by
  have hba := below_a w (.cells #[.int .i64 T.kind, .int .i64 T.pid, .int .i64 T.at_, .int .i64 T.n, .int .i64 T.prot, .slice ta tn tc] 38)
  have hrow := heap_alloc_new w (.cells #[.int .i64 T.kind, .int .i64 T.pid, .int .i64 T.at_, .int .i64 T.n, .int .i64 T.prot, .slice ta tn tc] 38)
  have HK := Lib.hid (known18 (w.alloc (.cells #[.int .i64 T.kind, .int .i64 T.pid, .int .i64 T.at_, .int .i64 T.n, .int .i64 T.prot, .slice ta tn tc] 38)))
  have HTM := hT.max
  have HTC := hT.cap
  have hrm := hr.max
  have hrc := hr.cap
  have HB0 := Lib.hid hba
  have HO0 := Lib.hid hrow
  have HT := Lib.hid hT
  have HR := Lib.hid hr
  have HW := Lib.hid hw
  have ht1 : tn ≤ 9223372036854775807 := by unfold maxLen at HTM; omega
  have hn1 : n ≤ 9223372036854775807 := by unfold maxLen at hrm; omega
  clear hba hrow hT hr hw HTM HTC hrm hrc
  go_enter Tryz.func4, Tryz.ntmps4
  go_wp2_with fail
  refine HK.out.mono ?_
  rintro e w1 ⟨rfl, hb1⟩
  have HB1 := Lib.hid (Below.call HB0.out hb1)
  have HO1 := Lib.hid (row_keep HO0.out hb1)
  clear hb1 HK
  obtain ⟨o0, o1, o2, o3, o4, o5⟩ := cells6 HO1.out
  by_cases g1 : 16384 < tn
  · have d1 : decide ((16384 : Int) < (tn : Int)) = true := decide_eq_true (by omega)
    have d2 : decide (16384 < tn) = true := decide_eq_true g1
    go_wp2
    go_ret
    exact ⟨rfl, HB1.out⟩
  have d1 : decide ((16384 : Int) < (tn : Int)) = false := decide_eq_false (by omega)
  have d2 : decide (16384 < tn) = false := decide_eq_false g1
  by_cases g2 : 16384 < n
  · have d3 : decide ((16384 : Int) < (n : Int)) = true := decide_eq_true (by omega)
    have d4 : decide (16384 < n) = true := decide_eq_true g2
    go_wp2
    go_ret
    exact ⟨rfl, HB1.out⟩
  have d3 : decide ((16384 : Int) < (n : Int)) = false := decide_eq_false (by omega)
  have d4 : decide (16384 < n) = false := decide_eq_false g2
  have HT1 := Lib.hid (HT.out.below HB1.out)
  have HR1 := Lib.hid (HR.out.below HB1.out)
  have HTL : Hid (T.data.length = tn) := HT.out.len
  have HCR := Lib.hid (opright_any (dc := tc) (w := w1) ta tn T.o HTL.out)
  obtain ⟨RO, hRO⟩ : ∃ x, rightOp T.o = x := ⟨_, rfl⟩
  rw [hRO] at HCR
  have HRO := Lib.hid hRO
  unfold OpP.o at HCR
  clear hRO
  go_wp2_with fail
  refine HCR.out.mono ?_
  rintro e w2 ⟨rfl, hb2⟩
  have HB2 := Lib.hid (Below.call HB1.out hb2)
  have HO2 := Lib.hid (row_keep HO1.out hb2)
  have HT2 := Lib.hid (HT1.out.below hb2)
  have HR2 := Lib.hid (HR1.out.below hb2)
  clear hb2 HCR o0 o1 o2 o3 o4 o5
  cases RO with
  | false =>
    have hcd := decode_any a n c b w2 HR2.out (by omega)
    have HCD := Lib.hid hcd
    clear hcd
    go_wp2_with fail
    refine HCD.out.mono ?_
    rintro e y1 ⟨a1, n1, c1, rfl, hr1, hb1⟩
    have HY1 := Lib.hid (Below.call HB2.out hb1)
    have hl1 := hr1.len
    obtain ⟨E, hE⟩ : ∃ x, decE b = x := ⟨_, rfl⟩
    obtain ⟨D, hD⟩ : ∃ x, decV b = x := ⟨_, rfl⟩
    rw [hE]
    rw [hD] at hr1 hl1 ⊢
    have HE := Lib.hid hE
    have HD := Lib.hid hD
    obtain ⟨dk, dp, da, dn, dpr, dd⟩ := D
    replace hl1 : dd.length = n1 := hl1
    have hba := below_a y1 (.cells #[.int .i64 dk, .int .i64 dp, .int .i64 da, .int .i64 dn, .int .i64 dpr, .slice a1 n1 c1] 38)
    have hrow := heap_alloc_new y1 (.cells #[.int .i64 dk, .int .i64 dp, .int .i64 da, .int .i64 dn, .int .i64 dpr, .slice a1 n1 c1] 38)
    obtain ⟨y2, hy2⟩ : ∃ x, y1.alloc (.cells #[.int .i64 dk, .int .i64 dp, .int .i64 da, .int .i64 dn, .int .i64 dpr, .slice a1 n1 c1] 38) = x := ⟨_, rfl⟩
    obtain ⟨yb, hyb⟩ : ∃ x, y1.heap.size = x := ⟨_, rfl⟩
    rw [hy2] at hba hrow
    rw [hyb] at hrow
    have HY2 := Lib.hid hy2
    have HYB := Lib.hid (Below.call HY1.out hba)
    obtain ⟨s0, s1, s2, s3, s4, s5⟩ := cells6 hrow
    clear hr1 hb1 hE hD hba hrow hy2 HCD
    by_cases h0 : E = 0
    · subst h0
      have hri := dec_right b HE.out
      rw [HD.out] at hri
      have HCR := Lib.hid (opright_any (dc := c1) (w := y2) a1 n1 ⟨dk, dp, da, dn, dpr, dd⟩ hl1)
      rw [show rightOp ⟨dk, dp, da, dn, dpr, dd⟩ = true from hri] at HCR
      clear hri
      go_wp2_with (rw [HY2.out])
      refine HCR.out.mono ?_
      rintro e y3 ⟨rfl, hb3⟩
      have HF := Lib.hid (Below.call HYB.out hb3)
      clear hb3 HCR
      go_wp2
      go_ret
      exact ⟨rfl, HF.out⟩
    · obtain ⟨e1, e2⟩ := dec_bad b (by rw [HE.out]; exact h0)
      rw [HE.out] at e1
      rw [HD.out] at e2
      injection e2 with f1 f2 f3 f4 f5 f6
      subst e1 f1 f2 f3 f4 f5 f6
      have hn1 : n1 = 0 := by rw [← hl1]; rfl
      subst hn1
      clear h0 hl1
      go_wp2_with (rw [HY2.out])
      go_ret
      exact ⟨rfl, by first | exact HYB.out | (rw [HY2.out]; exact HYB.out)⟩
  | true =>
    obtain ⟨o0, o1, o2, o3, o4, o5⟩ := cells6 HO2.out
    obtain ⟨hde, hdv⟩ := dec_enc T HW.out (by have := HTL.out; omega) HRO.out
    have HEC := Lib.hid (encode_any T ta tn tc w2 HT2.out (by omega) HW.out)
    have HEL : Hid ((encO T).length ≤ 20000) := by
      show _ ≤ _
      have := encI_len T.kind; have := encI_len T.pid; have := encI_len T.at_; have := encI_len T.n; have := encI_len T.prot; have := encI_len T.data.length; have := HTL.out
      unfold encO enc5
      simp only [List.length_append]
      omega
    go_wp2_with fail
    refine HEC.out.mono ?_
    rintro e w3 ⟨v3, rfl, ho3, hb3⟩
    obtain ⟨a3, c3, rfl⟩ := ho3.shape
    have HB3 := Lib.hid (Below.call HB2.out hb3)
    have HO3 := Lib.hid (row_keep HO2.out hb3)
    have HT3 := Lib.hid (HT2.out.below hb3)
    have HR3 := Lib.hid (HR2.out.below hb3)
    have hcd := decode_any a3 _ c3 (encO T) w3 ho3.rd (by have := HEL.out; omega)
    rw [hde, hdv] at hcd
    have HCD0 := Lib.hid hcd
    clear ho3 hb3 HEC hcd hde hdv o0 o1 o2 o3 o4 o5
    go_wp2_with fail
    refine HCD0.out.mono ?_
    rintro e w4 ⟨a4, n4, c4, rfl, hr4, hb4⟩
    have HB4 := Lib.hid (Below.call HB3.out hb4)
    have HO4 := Lib.hid (row_keep HO3.out hb4)
    have HT4 := Lib.hid (HT3.out.below hb4)
    have HR4 := Lib.hid (HR3.out.below hb4)
    have hba := below_a w4 (.cells #[.int .i64 T.kind, .int .i64 T.pid, .int .i64 T.at_, .int .i64 T.n, .int .i64 T.prot, .slice a4 n4 c4] 38)
    have hrow := heap_alloc_new w4 (.cells #[.int .i64 T.kind, .int .i64 T.pid, .int .i64 T.at_, .int .i64 T.n, .int .i64 T.prot, .slice a4 n4 c4] 38)
    have hr5 := hr4.below hba
    obtain ⟨w5, hw5⟩ : ∃ x, w4.alloc (.cells #[.int .i64 T.kind, .int .i64 T.pid, .int .i64 T.at_, .int .i64 T.n, .int .i64 T.prot, .slice a4 n4 c4] 38) = x := ⟨_, rfl⟩
    obtain ⟨b5, hb5⟩ : ∃ x, w4.heap.size = x := ⟨_, rfl⟩
    rw [hw5] at hba hrow hr5
    rw [hb5] at hrow
    have HW5 := Lib.hid hw5
    have HB5 := Lib.hid (Below.call HB4.out hba)
    have HT5 := Lib.hid (HT4.out.below hba)
    have HR5 := Lib.hid (HR4.out.below hba)
    obtain ⟨s0, s1, s2, s3, s4, s5⟩ := cells6 hrow
    obtain ⟨o0, o1, o2, o3, o4, o5⟩ := cells6 (row_keep HO4.out hba)
    have k1 := conv_rd (P := Tryz.prog) u8T s8 su hr5
    have k2 := conv_rd (P := Tryz.prog) u8T s8 su HT5.out
    clear hr4 hb4 hba hrow hw5 hr5 HCD0
    have hcd := decode_any a n c b w5 HR5.out (by omega)
    have HCD := Lib.hid hcd
    clear hcd
    go_wp2_with (rw [HW5.out])
    refine HCD.out.mono ?_
    rintro e y1 ⟨a1, n1, c1, rfl, hr1, hb1⟩
    have HY1 := Lib.hid (Below.call HB5.out hb1)
    have hl1 := hr1.len
    obtain ⟨E, hE⟩ : ∃ x, decE b = x := ⟨_, rfl⟩
    obtain ⟨D, hD⟩ : ∃ x, decV b = x := ⟨_, rfl⟩
    rw [hE]
    rw [hD] at hr1 hl1 ⊢
    have HE := Lib.hid hE
    have HD := Lib.hid hD
    obtain ⟨dk, dp, da, dn, dpr, dd⟩ := D
    replace hl1 : dd.length = n1 := hl1
    have hba := below_a y1 (.cells #[.int .i64 dk, .int .i64 dp, .int .i64 da, .int .i64 dn, .int .i64 dpr, .slice a1 n1 c1] 38)
    have hrow := heap_alloc_new y1 (.cells #[.int .i64 dk, .int .i64 dp, .int .i64 da, .int .i64 dn, .int .i64 dpr, .slice a1 n1 c1] 38)
    obtain ⟨y2, hy2⟩ : ∃ x, y1.alloc (.cells #[.int .i64 dk, .int .i64 dp, .int .i64 da, .int .i64 dn, .int .i64 dpr, .slice a1 n1 c1] 38) = x := ⟨_, rfl⟩
    obtain ⟨yb, hyb⟩ : ∃ x, y1.heap.size = x := ⟨_, rfl⟩
    rw [hy2] at hba hrow
    rw [hyb] at hrow
    have HY2 := Lib.hid hy2
    have HYB := Lib.hid (Below.call HY1.out hba)
    obtain ⟨s0, s1, s2, s3, s4, s5⟩ := cells6 hrow
    clear hr1 hb1 hE hD hba hrow hy2 HCD
    by_cases h0 : E = 0
    · subst h0
      have hri := dec_right b HE.out
      rw [HD.out] at hri
      have HCR := Lib.hid (opright_any (dc := c1) (w := y2) a1 n1 ⟨dk, dp, da, dn, dpr, dd⟩ hl1)
      rw [show rightOp ⟨dk, dp, da, dn, dpr, dd⟩ = true from hri] at HCR
      clear hri
      go_wp2_with (rw [HY2.out])
      refine HCR.out.mono ?_
      rintro e y3 ⟨rfl, hb3⟩
      have HF := Lib.hid (Below.call HYB.out hb3)
      clear hb3 HCR
      go_wp2
      go_ret
      exact ⟨rfl, HF.out⟩
    · obtain ⟨e1, e2⟩ := dec_bad b (by rw [HE.out]; exact h0)
      rw [HE.out] at e1
      rw [HD.out] at e2
      injection e2 with f1 f2 f3 f4 f5 f6
      subst e1 f1 f2 f3 f4 f5 f6
      have hn1 : n1 = 0 := by rw [← hl1]; rfl
      subst hn1
      clear h0 hl1
      go_wp2_with (rw [HY2.out])
      go_ret
      exact ⟨rfl, by first | exact HYB.out | (rw [HY2.out]; exact HYB.out)⟩
end Go.Proofs.YtnbjodoajfkekaaGreat

namespace Go.Proofs.YtnbjodoajfkekaaGreat.modelBytes
open Go.ChangeShapes Go.WideShapes Go.ChangeAt Go.RowKit
set_option linter.unusedVariables false

set_option maxRecDepth 100000 in
theorem own : ownKnob Tryz.prog.godebug = none := by kernel_rfl
set_option maxRecDepth 100000 in
theorem laidOut : laidOutB Tryz.prog = true := by kernel_rfl

set_option maxRecDepth 100000 in
theorem lifted (os : Os) (started : os.Started) (H : Type) (enc : TypeId × Value → H) :
    ReturnsInHanded {} Tryz.checked os 4 .any (Rows.modelBytesSpec.pre6 enc Tryz.prog Tryz.f4 Rows.modelBytesRow.domain false) (Rows.modelBytesSpec.post enc Tryz.prog Tryz.f4 false true false false) := by
  refine returnsInHanded_of_change (C := Tryz.checked) own started (by kernel_rfl) Tryz.func4
    (ChangeSpec.witness6 (enc := enc) (C := Tryz.checked) false ⟨#[], #[.agg #[.int .i64 0, .int .i64 0, .int .i64 0, .int .i64 0, .int .i64 0, .slice none 0 0], .slice none 0 0], []⟩ 8 (by kernel_rfl) (by kernel_rfl) (by kernel_rfl) (by kernel_rfl)) ?_
  intro W base args ds gs before hval0 hW hcnd _
  have hval : ∀ (j : Nat) t v, Tryz.f4.params[j]? = some t → args[j]? = some v → Value.okWide Tryz.prog W .any base t v := hval0
  have hW' := hW
  obtain ⟨p, q, hA0, hV, rfl, hfz, hnd⟩ := hW
  have hA : DataW.TrodAll enc Tryz.prog W 0 (fun _ => true) true Tryz.f4.params.toList args.toList ds p := hA0
  rw [Tryz.params4] at hA hval
  obtain ⟨v0, vs0, d0, ds0, p0, q0, hargs, rfl, rfl, h0, r0⟩ := trodAll_cons hA
  obtain ⟨v1, vs1, d1, ds1, p1, q1, rfl, rfl, rfl, h1, r1⟩ := trodAll_cons r0
  obtain ⟨rfl, rfl, rfl⟩ := trodAll_nil r1
  obtain rfl : args = #[v0, v1] := by cases args; simp_all
  obtain ⟨rfl, rfl⟩ := trodVars_none hV
  have k0 := h0
  have lt0 : ∀ x ∈ p0, x.block < W.heap.size := by obtain ⟨m, hm⟩ := k0; exact DataW.trod_lt m _ _ _ hm
  obtain ⟨z0, a0, len0, cap0, rfl, w0, x0, y0⟩ := op_val (hval 0 38 v0 rfl rfl) h0
  have l0 := w0.len
  obtain ⟨a1, len1, cap1, rfl⟩ := okWide_slice Tryz.underlying36 (hval 1 36 v1 rfl rfl)
  have k1 := h1
  have lt1 : ∀ x ∈ p1, x.block < W.heap.size := by obtain ⟨m, hm⟩ := k1; exact DataW.trod_lt m _ _ _ hm
  obtain ⟨z1, w1⟩ : ∃ zs, RdAt .u8 W a1 len1 cap1 zs := by
    obtain ⟨fuel, hf⟩ := h1
    rcases open_ints Tryz.underlying36 Tryz.underlying5 (by kernel_rfl) hf with ⟨hcs, _⟩ | ⟨x, l, c, zs, hcs, _, hl, hm, hz, _, hcell, hwz⟩
    · simp [Value.cells] at hcs
      obtain ⟨rfl, rfl, rfl⟩ := hcs
      exact ⟨[], RdAt.nil _ _⟩
    · simp [Value.cells] at hcs
      obtain ⟨rfl, rfl, rfl⟩ := hcs
      exact ⟨_, RdAt.of_row hl hm (by simpa using hz) hcell hwz⟩
  clear hA0 hval0
  refine (modelBytes_walk z0 a0 len0 cap0 a1 len1 cap1 z1 W w0 x0 w1).mono fun e W' ⟨he, bel⟩ => ?_
  subst he
  exact ⟨_, rfl, _, _, _, [], _, [], hW', trodAll_mk1 (shut_bool Tryz.underlying4 _), (trodAll_cons_mk (Below.trod laidOut (by kernel_rfl) (of_decide_eq_true (by kernel_rfl)) k0 bel lt0) (trodAll_cons_mk (Below.trod laidOut (by kernel_rfl) (of_decide_eq_true (by kernel_rfl)) k1 bel lt1) trodAll_mk0)), rfl, bel.frame _, fun h => by cases h⟩

set_option maxRecDepth 100000 in
theorem over : Rows.modelBytesRow.holds Tryz.pinned (OpenSpec.ofChange Rows.modelBytesSpec) :=
  OpenClaim.holds_of_wide 4 Tryz.f4 rfl rfl rfl rfl rfl rfl rfl ⟨rfl, rfl, rfl, rfl, rfl⟩ rfl rfl rfl rfl rfl (by kernel_rfl) Tryz.func4 (by kernel_rfl)
    (of_decide_eq_true (by kernel_rfl)) (by unfold Func.isWrapper; first | (rw [if_pos (by decide +kernel)]; kernel_rfl) | (rw [if_neg (by decide +kernel)]; exact ⟨rfl, rfl⟩))
    (fun os started H enc _ => lifted os started H enc)

/-- ModelBytes holds for every input. -/
theorem proved : Rows.ModelBytesSaid := over
end Go.Proofs.YtnbjodoajfkekaaGreat.modelBytes
