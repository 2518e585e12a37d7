/- The document's regions: Pieces. region: Right; the document's. The document's regions: Clean. The law's Same, known. What Map, Protect, Unmap, Clean make, the program's and the document's alike. Numbers that are taken, as a row of 64 bits: plain laws. No program in sight. The contracts of procs: New, Has, Bits, Take, Free, List, Len. The reference's set of numbers: contracts of New, Has, Take, Free, List, Bits. The reference's set of numbers: contracts of Bits and Of; procs.Of. procs.Of and the reference's: contracts. What ProcsPlays hands to Each, Each itself, and rows of numbers compared. The walk of almanaclaw17.ProcsLeast. Take and Free, whatever there is: contracts of the program's and the reference's. -/
import Derived.Test.YtnbjodoajfkekaaMj10
import Derived.Test.YtnbjodoajfkekaaMj1
import Derived.Test.YtnbjodoajfkekaaProg
import Derived.RegionTactic
import Derived.ChangeAlike
import Derived.ProofKit
import Derived.OwnWalk
import Derived.Laws.OwnMore
import Derived.Deep.QuietTactic
import Derived.BigQuiet
import Derived.Test.YtnbjodoajfkekaaMj3
namespace Go.Proofs.Ytnbjodoajfkekaa
open Go.RowKit
theorem put_row0 {w : World} {b T : Nat} {x y z v : Value} (h : w.heap[b]? = some (.cells #[x, y, z] T (0, 0))) : (w.setCell ⟨b, 0, none⟩ v).heap[b]? = some (.cells #[v, y, z] T (0, 0)) := heap_setCell_same w b 0 _ T v h
theorem put_row1 {w : World} {b T : Nat} {x y z v : Value} (h : w.heap[b]? = some (.cells #[x, y, z] T (0, 0))) : (w.setCell ⟨b, 1, none⟩ v).heap[b]? = some (.cells #[x, v, z] T (0, 0)) := heap_setCell_same w b 1 _ T v h
theorem put_below {w0 w : World} {b i : Nat} {v : Value} (h : Below w0.heap.size w0 w) (hb : w0.heap.size = b) : Below w0.heap.size w0 (w.setCell ⟨b, i, none⟩ v) :=
  Below.grown h (cell_grown1 w b i v) h.size (fun k e => by injection e with e; omega)
theorem piecesL_snoc {L : List Rg} {k : Nat} {r : Rg} (lo hi : Int) (h : L[k]? = some r) : piecesL (L.take (k + 1)) lo hi = piecesL (L.take k) lo hi ++ (if max r.lo lo < min r.hi hi then [clipR lo hi r] else []) := by
  rw [List.take_add_one, h]
  unfold piecesL
  rw [List.map_append, List.filter_append]
  congr 1
  show List.filter _ [clipR lo hi r] = _
  rw [List.filter_cons, List.filter_nil]
  unfold clipR
  by_cases h : max r.lo lo < min r.hi hi
  · rw [if_pos h, if_pos (by simpa using h)]
  · rw [if_neg h, if_neg (by simpa using h)]
theorem piecesL_le (L : List Rg) (k : Nat) (lo hi : Int) : (piecesL (L.take k) lo hi).length ≤ L.length := by
  unfold piecesL
  refine Nat.le_trans (List.length_filter_le _ _) ?_
  rw [List.length_map, List.length_take]
  omega
end Go.Proofs.Ytnbjodoajfkekaa

namespace Go.Proofs.Ytnbjodoajfkekaa
open Go.RowKit
/-- May a region be? -/
def rightOne (pages : Int) (r : Rg) : Bool := decide (0 ≤ r.lo) && (decide (r.lo < r.hi) && (decide (r.hi ≤ pages) && (decide (0 ≤ r.p) && decide (r.p ≤ 3))))
/-- May it be behind this one? -/
def rightTwo (q : Option Rg) (r : Rg) : Bool := match q with | none => true | some q => !decide (r.lo < q.hi) && !(decide (q.hi = r.lo) && decide (q.p = r.p))
def rightGo (pages : Int) : Option Rg → List Rg → Bool
  | _, [] => true
  | q, r :: l => rightOne pages r && (rightTwo q r && rightGo pages (some r) l)
def rightL (L : List Rg) (pages : Int) : Bool := rightGo pages none L
def prevK (L : List Rg) : Nat → Option Rg
  | 0 => none
  | k + 1 => L[k]?
theorem right_step {L : List Rg} {pages : Int} {k : Nat} {r : Rg} (hr : L[k]? = some r) : rightGo pages (prevK L k) (L.drop k) = (rightOne pages r && (rightTwo (prevK L k) r && rightGo pages (prevK L (k + 1)) (L.drop (k + 1)))) := by
  rw [drop_at hr, rightGo]
  show _ = (rightOne pages r && (rightTwo (prevK L k) r && rightGo pages (L[k]?) (L.drop (k + 1))))
  rw [hr]
end Go.Proofs.Ytnbjodoajfkekaa

namespace Go.Proofs.Ytnbjodoajfkekaa
open Go.RowKit
theorem filter_snoc {L : List Rg} {k : Nat} {r : Rg} (h : L[k]? = some r) : (L.take (k + 1)).filter goodR = (L.take k).filter goodR ++ (if goodR r = true then [r] else []) := by
  rw [List.take_add_one, h, List.filter_append]
  congr 1
  show List.filter _ [r] = _
  rw [List.filter_cons, List.filter_nil]
theorem filter_le (L : List Rg) (k : Nat) : ((L.take k).filter goodR).length ≤ L.length := by
  refine Nat.le_trans (List.length_filter_le _ _) ?_
  rw [List.length_take]
  omega
theorem lastP_snoc {L : List Rg} {k : Nat} {r : Rg} (x : Int) (h : L[k]? = some r) : lastP (L.take (k + 1)) x = if r.lo ≤ x ∧ x < r.hi then r.p else lastP (L.take k) x := by
  rw [List.take_add_one, h]
  unfold lastP
  rw [List.foldl_append]
  show (if r.has x = true then r.p else _) = _
  by_cases h : r.lo ≤ x ∧ x < r.hi
  · rw [if_pos h, if_pos (Rg.has_iff.2 h)]
  · rw [if_neg h, if_neg (fun e => h (Rg.has_iff.1 e))]
theorem good_all {L : List Rg} : ∀ r ∈ L.filter goodR, r.Sm := fun r hr => by
  have h := goodR_iff.1 (List.mem_filter.1 hr).2
  exact ⟨by omega, by omega, by omega⟩
theorem lastP_wf {G : List Rg} (x : Int) (h : ∀ r ∈ G, r.Sm) : (Lit.int .i64 (lastP G x)).wf = true := by
  have : ∀ (G : List Rg) (z : Int), (∀ r ∈ G, r.Sm) → -1 ≤ z ∧ z ≤ 3 → -1 ≤ G.foldl (fun h r => if r.has x = true then r.p else h) z ∧ G.foldl (fun h r => if r.has x = true then r.p else h) z ≤ 3 := by
    intro G
    induction G with
    | nil => intro z _ hz; exact hz
    | cons r G ih =>
      intro z h hz
      refine ih _ (fun s hs => h s (List.mem_cons_of_mem _ hs)) ?_
      show -1 ≤ (if r.has x = true then r.p else z) ∧ (if r.has x = true then r.p else z) ≤ 3
      split
      · have := (h r (List.mem_cons_self ..)).p; omega
      · exact hz
  have h1 := this G (-1) h (by omega)
  exact Go.WalkArith.wf_i64 (by unfold lastP; omega)
end Go.Proofs.Ytnbjodoajfkekaa

namespace Go.Proofs.Ytnbjodoajfkekaa
open Go.RowKit
theorem joined_sorted {l : List Rg} {b : Int} (hs : l.Pairwise (fun a c => a.lo ≤ c.lo)) (hp : Parted l) (hn : NiceL l) (hb : ∀ r ∈ l, b ≤ r.lo) : joinedL l = joinedS l := (joined_any (List.Perm.refl l) hs hp hn hb).symm
theorem kn_map : GivesMap [⟨0, 2, 1⟩] 2 4 1 = GivesRE [⟨0, 4, 1⟩] 0 := by
  funext w
  unfold GivesMap
  rw [if_pos (by rfl), joined_sorted (b := 0) (by simp) (by simp [Parted, Apart]) (by simp [NiceL]) (by simp)]
  rfl
theorem kn_prot : joinedL (cutL [⟨0, 9, 3⟩] 3 5 ++ [⟨3, 5, 1⟩]) = [⟨0, 3, 3⟩, ⟨3, 5, 1⟩, ⟨5, 9, 3⟩] := by
  have e : cutL [⟨0, 9, 3⟩] 3 5 ++ [(⟨3, 5, 1⟩ : Rg)] = [⟨0, 3, 3⟩, ⟨5, 9, 3⟩, ⟨3, 5, 1⟩] := by rfl
  rw [e]
  refine ((joined_any (d := [⟨0, 3, 3⟩, ⟨3, 5, 1⟩, ⟨5, 9, 3⟩]) (b := 0) ?_ (by simp) (by simp [Parted, Apart]) (by simp [NiceL]) (by simp)).symm).trans (by rfl)
  exact List.Perm.cons _ (List.Perm.swap _ _ _)
theorem kn_rd {w : World} {g : Nat} {r : Rg} (h : w.heap[g]? = some (.cells #[.int .i64 r.lo, .int .i64 r.hi, .int .i64 r.p] 75 (0, 0))) : RdS Rg.cells 3 w (some ⟨g, 0, none⟩) 1 1 [r] := by
  obtain ⟨c0, c1, c2⟩ := cells3 h
  refine ⟨rfl, Nat.le_refl _, by unfold maxLen; omega, fun i x hx => ?_, fun e => by cases e⟩
  cases i with
  | succ i => simp at hx
  | zero =>
    obtain rfl : r = x := by simpa using hx
    refine ⟨g, 0, rfl, fun j u hu => ?_⟩
    rw [Nat.zero_mul, Nat.zero_add]
    match j, hu with
    | 0, hu => obtain rfl : Value.int .i64 r.lo = u := by simpa [Rg.cells] using hu
               simpa using c0
    | 1, hu => obtain rfl : Value.int .i64 r.hi = u := by simpa [Rg.cells] using hu
               simpa using c1
    | 2, hu => obtain rfl : Value.int .i64 r.p = u := by simpa [Rg.cells] using hu
               simpa using c2
    | j + 3, hu => simp [Rg.cells] at hu
end Go.Proofs.Ytnbjodoajfkekaa

namespace Go.Proofs.Ytnbjodoajfkekaa
open Go.RowKit
/-- Regions that are right, not too many: what Clean, Map, Protect and Unmap make. -/
structure Cn (m : Nat) (C : List Rg) : Prop where
  canon : Canon 0 (-1) C
  few : C.length ≤ m
  lo : Within 1099511627776 C
theorem Cn.nice {m : Nat} {C : List Rg} (h : Cn m C) : NiceL C := h.canon.rising.nice
theorem Cn.parted {m : Nat} {C : List Rg} (h : Cn m C) : Parted C := h.canon.rising.parted
theorem Cn.ends {m : Nat} {C : List Rg} (h : Cn m C) : ∀ r ∈ C, 0 ≤ r.lo ∧ r.hi ≤ 1099511627776 := fun r hr => ⟨(h.lo r hr).1, (h.lo r hr).2.1⟩
theorem Cn.sm {m : Nat} {C : List Rg} (h : Cn m C) : ∀ r ∈ C, r.Sm := fun r hr => by
  have h1 := h.lo r hr
  have h2 := h.nice r hr
  exact ⟨by omega, by omega, by omega⟩
theorem Cn.wf {m : Nat} {C : List Rg} (h : Cn m C) : ∀ r ∈ C, r.Wf := fun r hr => (h.sm r hr).wf
theorem Cn.more {m m' : Nat} {C : List Rg} (h : Cn m C) (hm : m ≤ m') : Cn m' C := ⟨h.canon, Nat.le_trans h.few hm, h.lo⟩
theorem joinedL_few (l : List Rg) : (joinedL l).length ≤ l.length := by
  unfold joinedL
  have h := joinedS_le (sortLo l)
  rwa [(sortLo_perm l).length_eq] at h
theorem clean_cn {L : List Rg} {n : Nat} (h : L.length ≤ n) : Cn (2 * n) (cleanL L) := by
  refine ⟨cleanL_canon L, ?_, fun r hr => by have := cleanL_within L r hr; omega⟩
  have h1 := joinedL_few (laidL L)
  have h2 := laidL_len L L.length
  rw [List.take_length] at h2
  show (joinedL (laidL L)).length ≤ _
  omega
theorem protect_cn {m : Nat} {C : List Rg} {lo hi p : Int} (h : Cn m C) (h0 : 0 ≤ lo) (hl : lo < hi) (hh : hi ≤ 1099511627776) (hp : 0 ≤ p ∧ p ≤ 3) : Cn (m + 2) (withL C lo hi p) := by
  rw [← protect_with h.canon h0 hl hp.1]
  have hpart := (cutL_parted h.parted hl).snoc (r := ⟨lo, hi, p⟩) (cutL_apart (r := ⟨lo, hi, p⟩) hl)
  have hnice := (cutL_nice h.nice hl).snoc (r := ⟨lo, hi, p⟩) ⟨hl, hp.1⟩
  refine ⟨joinedL_canon hpart hnice (snoc_low (fun s hs => ((cutL_rising h.canon.rising hl).mem s hs).1) h0), ?_, joinedL_within ?_⟩
  · refine Nat.le_trans (joinedL_few _) ?_
    rw [List.length_append]
    have := cutL_one hl h.parted
    have := h.few
    simp
    omega
  · intro r hr
    rcases List.mem_append.1 hr with hr | hr
    · exact cutL_within h.lo r hr
    · obtain rfl := List.mem_singleton.1 hr
      exact ⟨h0, hh, hp.2⟩
def unL (C : List Rg) (lo hi : Int) : List Rg := if hi ≤ lo then C else withL C lo hi (-1)
theorem unL_cut {m : Nat} {C : List Rg} {lo hi : Int} (h : Cn m C) : cutL C lo hi = unL C lo hi := by
  unfold unL
  by_cases h0 : hi ≤ lo
  · rw [if_pos h0]
    unfold cutL
    rw [if_pos h0]
  · rw [if_neg h0, unmap_with h.canon (by omega)]
theorem un_cn {m : Nat} {C : List Rg} {lo hi : Int} (h : Cn m C) : Cn (m + 1) (unL C lo hi) := by
  rw [← unL_cut h]
  by_cases h0 : hi ≤ lo
  · unfold cutL
    rw [if_pos h0]
    exact h.more (by omega)
  · have hl : lo < hi := by omega
    exact ⟨cutL_canon h.canon hl, by have := cutL_one hl h.parted; have := h.few; omega, cutL_within h.lo⟩
def mapE (C : List Rg) (lo hi p : Int) : Int := if rightB lo hi p = false then 1 else if usedB C lo hi = true then 3 else 0
def mapL (C : List Rg) (lo hi p : Int) : List Rg := if mapE C lo hi p = 0 then withL C lo hi p else []
def proE (C : List Rg) (lo hi p : Int) : Int := if rightB lo hi p = false then 1 else if refAll C lo hi (okW 0) = false then 2 else 0
def proL (C : List Rg) (lo hi p : Int) : List Rg := if proE C lo hi p = 0 then withL C lo hi p else []
theorem map_ok {C : List Rg} {lo hi p : Int} (h : mapE C lo hi p = 0) : (0 ≤ lo ∧ lo < hi ∧ 0 ≤ p ∧ p ≤ 3) ∧ usedB C lo hi = false ∧ mapL C lo hi p = withL C lo hi p := by
  refine ⟨?_, ?_, by unfold mapL; rw [if_pos h]⟩
  · cases e : rightB lo hi p with
    | true => exact rightB_iff e
    | false => unfold mapE at h; rw [if_pos e] at h; cases h
  · cases e : rightB lo hi p with
    | false => unfold mapE at h; rw [if_pos e] at h; cases h
    | true =>
      unfold mapE at h
      rw [if_neg (by simp [e])] at h
      cases e2 : usedB C lo hi with
      | false => rfl
      | true => rw [if_pos e2] at h; cases h
theorem pro_ok {C : List Rg} {lo hi p : Int} (h : proE C lo hi p = 0) : (0 ≤ lo ∧ lo < hi ∧ 0 ≤ p ∧ p ≤ 3) ∧ refAll C lo hi (okW 0) = true ∧ proL C lo hi p = withL C lo hi p := by
  refine ⟨?_, ?_, by unfold proL; rw [if_pos h]⟩
  · cases e : rightB lo hi p with
    | true => exact rightB_iff e
    | false => unfold proE at h; rw [if_pos e] at h; cases h
  · cases e : rightB lo hi p with
    | false => unfold proE at h; rw [if_pos e] at h; cases h
    | true =>
      unfold proE at h
      rw [if_neg (by simp [e])] at h
      cases e2 : refAll C lo hi (okW 0) with
      | true => rfl
      | false => rw [if_pos e2] at h; cases h
theorem map_cn {m : Nat} {C : List Rg} {lo hi p : Int} (h : Cn m C) (hh : hi ≤ 1099511627776) : Cn (m + 2) (mapL C lo hi p) := by
  by_cases e : mapE C lo hi p = 0
  · obtain ⟨h1, _, h3⟩ := map_ok e
    rw [h3]
    exact protect_cn h h1.1 h1.2.1 hh h1.2.2
  · unfold mapL
    rw [if_neg e]
    exact ⟨trivial, by simp, fun r hr => (List.not_mem_nil hr).elim⟩
theorem pro_cn {m : Nat} {C : List Rg} {lo hi p : Int} (h : Cn m C) (hh : hi ≤ 1099511627776) : Cn (m + 2) (proL C lo hi p) := by
  by_cases e : proE C lo hi p = 0
  · obtain ⟨h1, _, h3⟩ := pro_ok e
    rw [h3]
    exact protect_cn h h1.1 h1.2.1 hh h1.2.2
  · unfold proL
    rw [if_neg e]
    exact ⟨trivial, by simp, fun r hr => (List.not_mem_nil hr).elim⟩
set_option maxRecDepth 100000 in
theorem map_out {m : Nat} (a : Option Addr) (n c : Nat) (C : List Rg) (lo hi p : Int) (w : World) (h : RdS Rg.cells 3 w a n c C) (hc : Cn m C) (hm : m ≤ 900) (hh : hi ≤ 1099511627776) :
    Calls Try.prog 60 #[.slice a n c, .int .i64 lo, .int .i64 hi, .int .i64 p] w (GivesRE (mapL C lo hi p) (mapE C lo hi p) w) := by
  have hn : n ≤ 1000 := by have := h.len; have := hc.few; omega
  cases e : rightB lo hi p with
  | false =>
    have e1 : mapE C lo hi p = 1 := by unfold mapE; rw [if_pos e]
    have e2 : mapL C lo hi p = [] := by unfold mapL; rw [e1]; rfl
    rw [e1, e2]
    exact map_arg a n c lo hi p w e
  | true =>
    obtain ⟨r1, r2, r3, r4⟩ := rightB_iff e
    refine (map_yes a n c C lo hi p w h hn hc.nice hc.parted hc.ends hh e).mono fun en w' k => ?_
    unfold GivesMap at k
    cases e2 : usedB C lo hi with
    | true =>
      have e3 : mapE C lo hi p = 3 := by unfold mapE; rw [if_neg (by simp [e]), if_pos e2]
      have e4 : mapL C lo hi p = [] := by unfold mapL; rw [e3]; rfl
      rw [if_neg (fun x => by rw [(used_pieces hc.nice r2).2 x] at e2; cases e2)] at k
      rw [e3, e4]
      exact k
    | false =>
      have e3 : mapE C lo hi p = 0 := by unfold mapE; rw [if_neg (by simp [e]), if_neg (by simp [e2])]
      have e4 : mapL C lo hi p = withL C lo hi p := by unfold mapL; rw [if_pos e3]
      have hp := (used_pieces hc.nice r2).1 e2
      rw [if_pos hp, map_with hc.canon r1 r2 r3 ((pieces_none hc.nice r2).1 hp)] at k
      rw [e3, e4]
      exact k
set_option maxRecDepth 100000 in
theorem pro_out {m : Nat} (a : Option Addr) (n c : Nat) (C : List Rg) (lo hi p : Int) (w : World) (h : RdS Rg.cells 3 w a n c C) (hc : Cn m C) (hm : m ≤ 900) (hh : hi ≤ 1099511627776) :
    Calls Try.prog 62 #[.slice a n c, .int .i64 lo, .int .i64 hi, .int .i64 p] w (GivesRE (proL C lo hi p) (proE C lo hi p) w) := by
  have hn : n ≤ 1000 := by have := h.len; have := hc.few; omega
  refine (protect_any a n c C lo hi p w h hn hc.nice hc.parted hc.ends hh).mono fun en w' k => ?_
  cases e : rightB lo hi p with
  | false =>
    have e1 : proE C lo hi p = 1 := by unfold proE; rw [if_pos e]
    have e2 : proL C lo hi p = [] := by unfold proL; rw [e1]; rfl
    rw [if_pos e] at k
    rw [e1, e2]
    exact k
  | true =>
    obtain ⟨r1, r2, r3, r4⟩ := rightB_iff e
    rw [if_neg (by simp [e]), all_ref hc.canon.rising r1] at k
    cases e2 : refAll C lo hi (okW 0) with
    | false =>
      have e3 : proE C lo hi p = 2 := by unfold proE; rw [if_neg (by simp [e]), if_pos e2]
      have e4 : proL C lo hi p = [] := by unfold proL; rw [e3]; rfl
      rw [if_pos e2] at k
      rw [e3, e4]
      exact k
    | true =>
      have e3 : proE C lo hi p = 0 := by unfold proE; rw [if_neg (by simp [e]), if_neg (by simp [e2])]
      have e4 : proL C lo hi p = withL C lo hi p := by unfold proL; rw [if_pos e3]
      rw [if_neg (by simp [e2]), protect_with hc.canon r1 r2 r3] at k
      rw [e3, e4]
      exact k
set_option maxRecDepth 100000 in
theorem un_out {m : Nat} (a : Option Addr) (n c : Nat) (C : List Rg) (lo hi : Int) (w : World) (h : RdS Rg.cells 3 w a n c C) (hc : Cn m C) (hm : m ≤ 900) :
    Calls Try.prog 61 #[.slice a n c, .int .i64 lo, .int .i64 hi] w (GivesRgs (unL C lo hi) w) := by
  have hn : n ≤ 1000 := by have := h.len; have := hc.few; omega
  have := unmap_any a n c C lo hi w h hn hc.nice
  rwa [unL_cut hc] at this
theorem right_canon {m : Int} : ∀ {l : List Rg} {q : Rg}, Canon q.hi q.p l → Within m l → rightGo m (some q) l = true
  | [], _, _, _ => rfl
  | r :: l, q, ⟨h1, h2, h3, h4, h5⟩, hw => by
    have hr := hw r (List.mem_cons_self ..)
    rw [rightGo, right_canon h5 (fun s hs => hw s (List.mem_cons_of_mem _ hs))]
    have e1 : rightOne m r = true := by
      unfold rightOne
      rw [decide_eq_true hr.1, decide_eq_true h2, decide_eq_true hr.2.1, decide_eq_true h3, decide_eq_true hr.2.2]
      rfl
    have e2 : rightTwo (some q) r = true := by
      show (!decide (r.lo < q.hi) && !(decide (q.hi = r.lo) && decide (q.p = r.p))) = true
      rw [decide_eq_false (by omega)]
      by_cases e : q.hi = r.lo
      · rw [decide_eq_false (p := q.p = r.p) (fun x => h4 e.symm x.symm)]
        simp
      · rw [decide_eq_false e]
        rfl
    rw [e1, e2]
    rfl
theorem clean_right (L : List Rg) : rightL (cleanL L) 1073741824 = true := by
  have h1 := cleanL_canon L
  have h2 := cleanL_within L
  unfold rightL
  cases e : cleanL L with
  | nil => rfl
  | cons r l =>
    rw [e] at h1 h2
    obtain ⟨q1, q2, q3, q4, q5⟩ := h1
    have hr := h2 r (List.mem_cons_self ..)
    rw [rightGo, right_canon q5 (fun s hs => h2 s (List.mem_cons_of_mem _ hs))]
    have e1 : rightOne 1073741824 r = true := by
      unfold rightOne
      rw [decide_eq_true hr.1, decide_eq_true q2, decide_eq_true hr.2.1, decide_eq_true q3, decide_eq_true hr.2.2]
      rfl
    rw [e1]
    rfl
end Go.Proofs.Ytnbjodoajfkekaa

namespace Go.Proofs.Ytnbjodoajfkekaa
open Go.RowKit
def qnum (b : BitVec 64) : Int := (b.toNat : Int)
theorem qnum_bd (b : BitVec 64) : 0 ≤ qnum b ∧ qnum b ≤ 18446744073709551615 := by unfold qnum; have := b.isLt; omega
theorem ofInt_qnum (a : BitVec 64) : BitVec.ofInt 64 (qnum a) = a := by unfold qnum; rw [BitVec.ofInt_natCast, BitVec.ofNat_toNat]; simp
theorem wrap_qnum (b : BitVec 64) : IntKind.u64.wrap (b.toNat : Int) = qnum b := by rw [IntKind.wrap_u64]; unfold qnum; have := b.isLt; omega
theorem q_and (x y : Int) : bits .and .u64 x y = qnum (BitVec.ofInt 64 x &&& BitVec.ofInt 64 y) := wrap_qnum _
theorem q_or (x y : Int) : bits .or .u64 x y = qnum (BitVec.ofInt 64 x ||| BitVec.ofInt 64 y) := wrap_qnum _
theorem q_andNot (x y : Int) : bits .andNot .u64 x y = qnum (BitVec.ofInt 64 x &&& ~~~ BitVec.ofInt 64 y) := wrap_qnum _
theorem q_shr (a : BitVec 64) (k : Nat) : qnum a / 2 ^ k = qnum (a >>> k) := by
  unfold qnum; rw [BitVec.toNat_ushiftRight, Nat.shiftRight_eq_div_pow]; simp
def qbit (k : Nat) : BitVec 64 := 1#64 <<< k
theorem qbit_get (k i : Nat) (hi : i < 64) : (qbit k).getLsbD i = decide (i = k) := by
  unfold qbit
  rw [BitVec.getLsbD_shiftLeft, BitVec.getLsbD_one]
  by_cases h : i = k
  · subst h; simp [hi]
  · rw [decide_eq_false h]
    by_cases h2 : i < k
    · simp [h2]
    · rw [decide_eq_false (by omega : ¬ i - k = 0)]; simp
theorem qbit_num (k : Nat) (h : k < 64) : (2 : Int) ^ k = qnum (qbit k) := by
  unfold qnum qbit
  rw [BitVec.toNat_shiftLeft, Nat.shiftLeft_eq]
  have : 2 ^ k < 2 ^ 64 := Nat.pow_lt_pow_right (by decide) h
  simp only [BitVec.toNat_ofNat]
  rw [Nat.mod_eq_of_lt (by omega : 1 < 2 ^ 64), Nat.one_mul, Nat.mod_eq_of_lt this]
  simp
theorem q_and_one (r : BitVec 64) : r &&& 1#64 = if r.getLsbD 0 then 1#64 else 0#64 := by
  apply BitVec.eq_of_getLsbD_eq
  intro i hi
  rw [BitVec.getLsbD_and, BitVec.getLsbD_one]
  by_cases h : r.getLsbD 0 = true
  · rw [if_pos h, BitVec.getLsbD_one]
    cases i with
    | zero => rw [h]; rfl
    | succ i => simp
  · rw [if_neg h]
    cases i with
    | zero => rw [Bool.not_eq_true] at h; rw [h]; rfl
    | succ i => simp
theorem q_test (v : BitVec 64) (k : Nat) : bits .and .u64 (qnum v / 2 ^ k) 1 = if v.getLsbD k = true then 1 else 0 := by
  rw [q_and, q_shr, ofInt_qnum, show BitVec.ofInt 64 1 = 1#64 from rfl, q_and_one, BitVec.getLsbD_ushiftRight, Nat.add_zero]
  by_cases h : v.getLsbD k = true
  · rw [if_pos h, if_pos h]; rfl
  · rw [if_neg h, if_neg h]; rfl
theorem q_put (v : BitVec 64) (k : Nat) (h : k < 64) : bits .or .u64 (qnum v) (2 ^ k) = qnum (v ||| qbit k) := by
  rw [q_or, qbit_num k h, ofInt_qnum, ofInt_qnum]
theorem q_drop (v : BitVec 64) (k : Nat) (h : k < 64) : bits .andNot .u64 (qnum v) (2 ^ k) = qnum (v &&& ~~~ qbit k) := by
  rw [q_andNot, qbit_num k h, ofInt_qnum, ofInt_qnum]
theorem put_get (v : BitVec 64) (k i : Nat) (hi : i < 64) : (v ||| qbit k).getLsbD i = (v.getLsbD i || decide (i = k)) := by
  rw [BitVec.getLsbD_or, qbit_get k i hi]
theorem drop_get (v : BitVec 64) (k i : Nat) (hi : i < 64) : (v &&& ~~~ qbit k).getLsbD i = (v.getLsbD i && !decide (i = k)) := by
  rw [BitVec.getLsbD_and, BitVec.getLsbD_not, qbit_get k i hi, decide_eq_true hi, Bool.true_and]
theorem wrap_pow (k : Nat) (h : k < 64) : IntKind.u64.wrap (2 ^ k) = 2 ^ k := by
  rw [qbit_num k h]
  have := qnum_bd (qbit k)
  rw [IntKind.wrap_u64]
  omega
theorem q_put' (v : BitVec 64) (k : Nat) (h : k < 64) : bits .or .u64 (qnum v) (IntKind.u64.wrap (2 ^ k)) = qnum (v ||| qbit k) := by rw [wrap_pow k h, q_put v k h]
theorem q_drop' (v : BitVec 64) (k : Nat) (h : k < 64) : bits .andNot .u64 (qnum v) (IntKind.u64.wrap (2 ^ k)) = qnum (v &&& ~~~ qbit k) := by rw [wrap_pow k h, q_drop v k h]
def hasB (n : Int) (v : BitVec 64) (p : Int) : Bool := decide (0 ≤ p) && (decide (p < n) && v.getLsbD p.toNat)
/-- The least number below n that is not taken; n: there is none. -/
def firstF (v : BitVec 64) : Nat → Nat
  | 0 => 0
  | m + 1 => if firstF v m < m then firstF v m else if v.getLsbD m = true then m + 1 else m
theorem firstF_le (v : BitVec 64) : ∀ m, firstF v m ≤ m
  | 0 => Nat.le_refl _
  | m + 1 => by
    rw [firstF]
    split
    · omega
    · split <;> omega
theorem firstF_below (v : BitVec 64) : ∀ m j, j < firstF v m → v.getLsbD j = true
  | 0, j, h => by simp [firstF] at h
  | m + 1, j, h => by
    have hl := firstF_le v m
    rw [firstF] at h
    by_cases h1 : firstF v m < m
    · rw [if_pos h1] at h; exact firstF_below v m j h
    · rw [if_neg h1] at h
      by_cases h2 : v.getLsbD m = true
      · rw [if_pos h2] at h
        by_cases e : j = m
        · rw [e]; exact h2
        · exact firstF_below v m j (by omega)
      · rw [if_neg h2] at h
        exact firstF_below v m j (by omega)
theorem firstF_at (v : BitVec 64) : ∀ m, firstF v m < m → v.getLsbD (firstF v m) = false
  | 0, h => by simp [firstF] at h
  | m + 1, h => by
    rw [firstF] at h ⊢
    by_cases h1 : firstF v m < m
    · rw [if_pos h1]; exact firstF_at v m h1
    · rw [if_neg h1] at h ⊢
      by_cases h2 : v.getLsbD m = true
      · rw [if_pos h2] at h; omega
      · rw [if_neg h2]; simpa using h2
theorem firstF_eq {v : BitVec 64} {n k : Nat} (hk : k ≤ n) (hb : ∀ j, j < k → v.getLsbD j = true) (ha : k < n → v.getLsbD k = false) : firstF v n = k := by
  have h1 := firstF_le v n
  by_cases h : firstF v n < k
  · have := firstF_at v n (by omega)
    rw [hb _ h] at this
    cases this
  · by_cases h2 : k < firstF v n
    · have := firstF_below v n k h2
      rw [ha (by omega)] at this
      cases this
    · omega
/-- All that are taken, rising. -/
def pidsK (v : BitVec 64) : Nat → List Int
  | 0 => []
  | k + 1 => if v.getLsbD k = true then pidsK v k ++ [(k : Int)] else pidsK v k
theorem pidsK_le (v : BitVec 64) : ∀ k, (pidsK v k).length ≤ k
  | 0 => Nat.le_refl _
  | k + 1 => by
    have := pidsK_le v k
    rw [pidsK]
    split
    · simp; omega
    · omega
theorem pidsK_all {v : BitVec 64} : ∀ k, (∀ j, j < k → v.getLsbD j = true) → (pidsK v k).length = k
  | 0, _ => rfl
  | k + 1, h => by
    rw [pidsK, if_pos (h k (by omega)), List.length_append, pidsK_all k (fun j hj => h j (by omega))]; rfl
/-- The first n are taken. -/
def lowN : Nat → BitVec 64
  | 0 => 0#64
  | n + 1 => lowN n ||| qbit n
theorem lowN_get (i : Nat) (hi : i < 64) : ∀ n, (lowN n).getLsbD i = decide (i < n)
  | 0 => by simp [lowN]
  | n + 1 => by
    rw [lowN, put_get _ _ _ hi, lowN_get i hi n]
    by_cases h : i < n
    · rw [decide_eq_true h, decide_eq_true (by omega : i < n + 1)]; rfl
    · by_cases e : i = n
      · subst e; simp
      · rw [decide_eq_false h, decide_eq_false e, decide_eq_false (by omega : ¬ i < n + 1)]; rfl
theorem put_drop {v : BitVec 64} {k : Nat} (h : v.getLsbD k = false) : (v ||| qbit k) &&& ~~~ qbit k = v := by
  apply BitVec.eq_of_getLsbD_eq
  intro i hi
  rw [drop_get _ _ _ hi, put_get _ _ _ hi]
  by_cases e : i = k
  · subst e; rw [h]; simp
  · rw [decide_eq_false e]; simp
end Go.Proofs.Ytnbjodoajfkekaa

namespace Go.Proofs.Ytnbjodoajfkekaa
open Go.RowKit
/-- A set of numbers lies in block g. -/
def SetAt (w : World) (g : Nat) (n : Int) (v : BitVec 64) : Prop := w.heap[g]? = some (.cells #[.int .i64 n, .int .u64 (qnum v)] 100 (0, 0))
theorem SetAt.lt {w : World} {g : Nat} {n : Int} {v : BitVec 64} (h : SetAt w g n v) : g < w.heap.size := (Array.getElem?_eq_some_iff.1 h).1
theorem SetAt.cells {w : World} {g : Nat} {n : Int} {v : BitVec 64} (h : SetAt w g n v) : w.cell? ⟨g, 0, none⟩ = some (.int .i64 n) ∧ w.cell? ⟨g, 1, none⟩ = some (.int .u64 (qnum v)) ∧ w.frozen? ⟨g, 1, none⟩ = false := by
  unfold SetAt at h
  exact ⟨by simp [World.cell?, h], by simp [World.cell?, h], frozen_of_row w g 1 _ _ h⟩
theorem SetAt.below {w w' : World} {g : Nat} {n : Int} {v : BitVec 64} (h : SetAt w g n v) (hb : Below w.heap.size w w') : SetAt w' g n v := by
  unfold SetAt at *
  rw [hb.block g (Array.getElem?_eq_some_iff.1 h).1]; exact h
/-- A set's bits are put anew. -/
theorem SetAt.put {w : World} {g : Nat} {n : Int} {v : BitVec 64} (h : SetAt w g n v) (x : Int) (v' : BitVec 64) (e : x = qnum v') : SetAt (w.setCell ⟨g, 1, none⟩ (.int .u64 x)).drew g n v' := by
  subst e
  exact heap_setCell_same _ _ _ _ _ _ h
theorem put_grown (w : World) (g : Nat) (x : Value) : w.grownBy (w.setCell ⟨g, 1, none⟩ x).drew (some g) :=
  ⟨rfl, rfl, rfl, by simp [World.drew], fun k _ hk => heap_setCell_other w ⟨g, 1, none⟩ k x (fun e => hk (by simp [e]))⟩
set_option maxRecDepth 100000 in
theorem newset_no (n : Int) (w : World) (h : n < 1 ∨ 64 < n) : Calls Try.prog 24 #[.int .i64 n] w fun e w' => e = .returned (.tuple #[.pointer none, .int .i64 1]) ∧ w = w' := by
  rcases h with h | h
  · go_enter Try.func24, Try.ntmps24
    go_wp2
    go_ret2
    exact ⟨rfl, rfl⟩
  · have h' : ¬ n < 1 := by omega
    go_enter Try.func24, Try.ntmps24
    go_wp2
    go_ret2
    exact ⟨rfl, rfl⟩
set_option maxRecDepth 100000 in
theorem newset_yes (n : Int) (w : World) (h1 : 1 ≤ n) (h2 : n ≤ 64) : Calls Try.prog 24 #[.int .i64 n] w fun e w' => e = .returned (.tuple #[.pointer (some ⟨w.heap.size, 0, none⟩), .int .i64 0]) ∧ SetAt w' w.heap.size n 0#64 ∧ Below w.heap.size w w' := by
  go_enter Try.func24, Try.ntmps24
  go_wp2
  go_ret2
  exact ⟨rfl, heap_alloc_new _ _, (Below.refl _ _).alloc (Nat.le_refl _) _⟩
set_option maxRecDepth 100000 in
theorem has_any (g : Nat) (n : Int) (v : BitVec 64) (p : Int) (w : World) (h : SetAt w g n v) (hn : n ≤ 64) : Calls Try.prog 47 #[.pointer (some ⟨g, 0, none⟩), .int .i64 p] w fun e w' => e = .returned (.bool (hasB n v p)) ∧ w = w' := by
  obtain ⟨c0, c1, _⟩ := h.cells
  clear h
  by_cases h1 : 0 ≤ p
  · obtain ⟨q, rfl⟩ := Int.eq_ofNat_of_zero_le h1
    by_cases h2 : (q : Int) < n
    · have ht := q_test v q
      by_cases hb : v.getLsbD q = true
      · have he : hasB n v q = true := by unfold hasB; rw [decide_eq_true h1, decide_eq_true h2, Int.toNat_natCast, hb]; rfl
        rw [he, if_pos hb] at *
        clear hb he
        go_enter Try.func47, Try.ntmps47
        go_wp2
        go_ret
        exact ⟨rfl, rfl⟩
      · have he : hasB n v q = false := by unfold hasB; rw [Int.toNat_natCast]; rw [Bool.not_eq_true] at hb; rw [hb]; simp
        rw [he]
        rw [if_neg hb] at ht
        clear hb he
        go_enter Try.func47, Try.ntmps47
        go_wp2
        go_ret
        exact ⟨rfl, rfl⟩
    · have he : hasB n v q = false := by unfold hasB; rw [decide_eq_false h2]; simp
      rw [he]
      clear he
      go_enter Try.func47, Try.ntmps47
      go_wp2
      go_ret
      exact ⟨rfl, rfl⟩
  · have he : hasB n v p = false := by unfold hasB; rw [decide_eq_false h1]; rfl
    rw [he]
    clear he
    go_enter Try.func47, Try.ntmps47
    go_wp2
    go_ret
    exact ⟨rfl, rfl⟩
theorem hasB_nat {n k : Nat} {v : BitVec 64} (h : k < n) : hasB n v k = v.getLsbD k := by
  unfold hasB
  rw [decide_eq_true (by omega : (0 : Int) ≤ k), decide_eq_true (by omega : (k : Int) < n), Int.toNat_natCast]; rfl
set_option maxRecDepth 100000 in
theorem take_no (g n : Nat) (v : BitVec 64) (w : World) (h : SetAt w g n v) (hn : n ≤ 64) (hf : firstF v n = n) :
    Calls Try.prog 28 #[.pointer (some ⟨g, 0, none⟩)] w fun e w' => e = .returned (.tuple #[.int .i64 0, .int .i64 5]) ∧ w = w' := by
  obtain ⟨c0, c1, _⟩ := h.cells
  have HS := Lib.hid h
  have HF := Lib.hid hf
  clear h hf
  go_enter Try.func28, Try.ntmps28
  go_wp2
  go_loop [9] (fun i => ∃ k : Nat, k ≤ n ∧ i = .int .i64 k) (fun i => n - (intOf i).toNat)
  case atStart => exact ⟨0, by omega, rfl⟩
  case round =>
    obtain ⟨k, hk, rfl⟩ := hrel
    by_cases hp : k < n
    · have hb : hasB n v k = true := by rw [hasB_nat hp]; exact firstF_below v n k (by rw [HF.out]; exact hp)
      go_wp2_with (go_at_call 47; refine (has_any _ _ _ _ _ HS.out (by omega)).mono ?_; rintro e w' ⟨rfl, rfl⟩)
      go_round
      case rel => exact ⟨k + 1, by omega, by go_num⟩
      case measure => simp [intOf] <;> omega
    · go_wp2
      go_ret2
      exact ⟨rfl, rfl⟩
set_option maxRecDepth 100000 in
theorem take_yes (g n k0 : Nat) (v : BitVec 64) (w : World) (h : SetAt w g n v) (hn : n ≤ 64) (hf : firstF v n = k0) (hk0 : k0 < n) :
    Calls Try.prog 28 #[.pointer (some ⟨g, 0, none⟩)] w fun e w' => e = .returned (.tuple #[.int .i64 k0, .int .i64 0]) ∧ SetAt w' g n (v ||| qbit k0) ∧ w.grownBy w' (some g) := by
  obtain ⟨c0, c1, cf⟩ := h.cells
  have HS := Lib.hid h
  have HF := Lib.hid hf
  clear h hf
  go_enter Try.func28, Try.ntmps28
  go_wp2
  go_loop [9] (fun i => ∃ k : Nat, k ≤ k0 ∧ i = .int .i64 k) (fun i => n - (intOf i).toNat)
  case atStart => exact ⟨0, by omega, rfl⟩
  case round =>
    obtain ⟨k, hk, rfl⟩ := hrel
    by_cases hp : k < k0
    · have hb : hasB n v k = true := by rw [hasB_nat (by omega)]; exact firstF_below v n k (by rw [HF.out]; exact hp)
      go_wp2_with (go_at_call 47; refine (has_any _ _ _ _ _ HS.out (by omega)).mono ?_; rintro e w' ⟨rfl, rfl⟩)
      go_round
      case rel => exact ⟨k + 1, by omega, by go_num⟩
      case measure => simp [intOf] <;> omega
    · have HE : Hid (k = k0) := by show _ = _; omega
      have hkn : k < n := by omega
      have hb : hasB n v k = false := by rw [hasB_nat hkn]; have := firstF_at v n (by rw [HF.out]; exact hk0); rw [HF.out] at this; rw [HE.out]; exact this
      have HQ := Lib.hid (q_put' v k (by omega))
      go_wp2_with (go_at_call 47; refine (has_any _ _ _ _ _ HS.out (by omega)).mono ?_; rintro e w' ⟨rfl, rfl⟩)
      go_region
      go_wp2
      go_ret2
      refine ⟨by rw [← HE.out]; rfl, ?_, put_grown _ _ _⟩
      rw [← HE.out]
      exact HS.out.put _ _ HQ.out
set_option maxRecDepth 100000 in
theorem free_no (g : Nat) (n : Int) (v : BitVec 64) (p : Int) (w : World) (h : SetAt w g n v) (hn : n ≤ 64) (hb : hasB n v p = false) :
    Calls Try.prog 35 #[.pointer (some ⟨g, 0, none⟩), .int .i64 p] w fun e w' => e = .returned (.int .i64 2) ∧ w = w' := by
  have HS := Lib.hid h
  clear h
  go_enter Try.func35, Try.ntmps35
  go_wp2_with (go_at_call 47; refine (has_any _ _ _ _ _ HS.out hn).mono ?_; rintro e w' ⟨rfl, rfl⟩)
  go_ret
  exact ⟨rfl, rfl⟩
set_option maxRecDepth 100000 in
theorem free_yes (g : Nat) (n : Int) (v : BitVec 64) (p : Nat) (w : World) (h : SetAt w g n v) (hn : n ≤ 64) (hb : hasB n v p = true) :
    Calls Try.prog 35 #[.pointer (some ⟨g, 0, none⟩), .int .i64 p] w fun e w' => e = .returned (.int .i64 0) ∧ SetAt w' g n (v &&& ~~~ qbit p) ∧ w.grownBy w' (some g) := by
  obtain ⟨c0, c1, cf⟩ := h.cells
  have hp : (p : Int) < n := by
    unfold hasB at hb
    simp only [Bool.and_eq_true, decide_eq_true_eq] at hb
    exact hb.2.1
  have HS := Lib.hid h
  have HQ := Lib.hid (q_drop' v p (by omega))
  clear h
  go_enter Try.func35, Try.ntmps35
  go_wp2_with (go_at_call 47; refine (has_any _ _ _ _ _ HS.out hn).mono ?_; rintro e w' ⟨rfl, rfl⟩)
  go_region
  go_wp2
  go_ret
  exact ⟨rfl, HS.out.put _ _ HQ.out, put_grown _ _ _⟩
set_option maxRecDepth 100000 in
theorem i64I : elemInfo Try.prog 3 .i64 8 := by unfold elemInfo; kernel_rfl
set_option maxRecDepth 100000 in
theorem i64T : Try.prog.underlying 38 = some (.slice 3) := Try.underlying38
/-- A variable in block h that holds a row of the call's own. -/
structure OutAt (w : World) (h : Nat) (v : Value) (l : List Int) : Prop where
  row : w.heap[h]? = some (.cells #[v] 38 (0, 0))
  own : Owns .i64 3 w (h + 1) v l
set_option maxRecDepth 100000 in
theorem list1_any (h : Nat) (v : Value) (l : List Int) (p : Int) (w : World) (ho : OutAt w h v l) (hl : l.length ≤ 1000000) (hp : (Lit.int .i64 p).wf = true) :
    Calls Try.prog 55 #[.int .i64 p, .pointer (some ⟨h, 0, none⟩)] w fun e w' => e = .returned (.bool true) ∧ (∃ v', OutAt w' h v' (l ++ [p])) ∧ Below h w w' := by
  have hr := ho.row
  have hlt : h < w.heap.size := (Array.getElem?_eq_some_iff.1 hr).1
  obtain ⟨a, c, hv⟩ := ho.own.shape
  have how := ho.own
  subst hv
  have c0 : w.cell? ⟨h, 0, none⟩ = some (.slice a l.length c) := by rw [cell_of_row w _ _ _ _ _ hr]; rfl
  have cf : w.frozen? ⟨h, 0, none⟩ = false := frozen_of_row w _ _ _ _ hr
  have HR := Lib.hid hr
  clear hr ho
  go_enter Try.func55, Try.ntmps55
  have hne : ∀ g, room (.slice a l.length c) = some g → some g ≠ some h := fun g hg e => by
    injection e with e
    have := (how.at_base g hg).1
    omega
  have HN := Lib.hid hne
  clear hne
  go_wp2_with (at_builtin; refine app_one i64T i64I (by decide) rfl (.tmp 4) (.tmp 6) rfl _ (h + 1) _ l rfl how _ rfl hp (by omega) (by omega) ?_; intro v2 w2 ho2 hg2; obtain ⟨a2, k2, rfl⟩ := ho2.shapeN (l.length + 1) (by simp); have hr2 := (hg2.1.block h hlt (fun e => HN.out h e.symm rfl)).trans HR.out; have c2 : w2.cell? ⟨h, 0, none⟩ = some (.slice a l.length c) := (by (rw [cell_of_row w2 _ _ _ _ _ hr2]; rfl)); have cf2 : w2.frozen? ⟨h, 0, none⟩ = false := frozen_of_row w2 _ _ _ _ hr2; have HR2 := Lib.hid hr2; clear hr2)
  go_ret
  have hB : Below h w w2 := hg2.below (by omega) (fun g hg => by have := (how.at_base g hg).1; omega)
  refine ⟨rfl, ⟨_, heap_setCell_same _ _ _ _ _ _ HR2.out, ho2.grown (row := some h) ⟨rfl, rfl, rfl, by simp, fun k _ hk => heap_setCell_other w2 ⟨h, 0, none⟩ k _ (fun e => hk (by simp [e]))⟩ (fun g hg e => ?_)⟩, hB.setCell (Nat.le_refl _) _⟩
  injection e with e
  have := (ho2.at_base g hg).1
  omega
theorem OutAt.below {w w' : World} {h : Nat} {v : Value} {l : List Int} (o : OutAt w h v l) (hb : Below w.heap.size w w') : OutAt w' h v l :=
  ⟨by have := o.row; rw [hb.block h (Array.getElem?_eq_some_iff.1 this).1]; exact this, o.own.below hb⟩
set_option maxRecDepth 100000 in
theorem each_list (g n h : Nat) (v : BitVec 64) (w : World) (hs : SetAt w g n v) (hn : n ≤ 64) (hgh : g < h) (ho : ∃ x, OutAt w h x []) :
    Calls Try.prog 54 #[.pointer (some ⟨g, 0, none⟩), .func (.func 55) #[] #[.pointer (some ⟨h, 0, none⟩)]] w fun e w' => e = .returned (.tuple #[]) ∧ (∃ x, OutAt w' h x (pidsK v n)) ∧ Below h w w' := by
  obtain ⟨c0, c1, cf⟩ := hs.cells
  have HS := Lib.hid hs
  have HO := Lib.hid ho
  clear hs ho
  go_enter Try.func54, Try.ntmps54
  go_wp2_with fail
  go_loopw [9] (fun i wr => ∃ k : Nat, k ≤ n ∧ i = .int .i64 k ∧ SetAt wr g n v ∧ (∃ x, OutAt wr h x (pidsK v k)) ∧ Below h w wr) (fun i _ => n - (intOf i).toNat)
  case atStart => exact ⟨0, by omega, rfl, HS.out, HO.out, Below.refl _ _⟩
  case round =>
    obtain ⟨k, hk, rfl, hs, ho, hb⟩ := hrel
    clear c0 c1 cf
    obtain ⟨c0, c1, cf⟩ := hs.cells
    have HS1 := Lib.hid hs
    have hgl := hs.lt
    clear hs
    obtain ⟨x, ho⟩ := ho
    have hsz := pidsK_le v k
    have HO1 := Lib.hid ho
    clear ho
    by_cases hp : k < n
    · by_cases hb1 : v.getLsbD k = true
      · have hbk : hasB n v k = true := by rw [hasB_nat hp]; exact hb1
        have HX : Hid (pidsK v (k + 1) = pidsK v k ++ [(k : Int)]) := by show _ = _; rw [pidsK, if_pos hb1]
        clear hb1
        go_wp2_with (first | (go_at_call 47; refine (has_any _ _ _ _ _ HS1.out (by omega)).mono ?_; rintro e w' ⟨rfl, rfl⟩) | (go_at_call 55; refine (list1_any _ _ _ _ _ HO1.out (by omega) (WalkArith.wf_i64 (by omega))).mono ?_; rintro e w2 ⟨rfl, ho2, hb2⟩))
        go_roundw
        case rel => exact ⟨k + 1, by omega, by go_num, by unfold SetAt; rw [hb2.block g hgh]; exact HS1.out, by rw [HX.out]; exact ho2, hb.trans hb2⟩
        case measure => simp [intOf] <;> omega
      · have hbk : hasB n v k = false := by rw [hasB_nat hp]; simpa using hb1
        have HX : Hid (pidsK v (k + 1) = pidsK v k) := by show _ = _; rw [pidsK, if_neg hb1]
        clear hb1
        go_wp2_with (first | (go_at_call 47; refine (has_any _ _ _ _ _ HS1.out (by omega)).mono ?_; rintro e w' ⟨rfl, rfl⟩))
        go_roundw
        case rel => exact ⟨k + 1, by omega, by go_num, HS1.out, by rw [HX.out]; exact ⟨_, HO1.out⟩, hb⟩
        case measure => simp [intOf] <;> omega
    · obtain rfl : k = n := by omega
      go_wp2_with fail
      go_end0
      exact ⟨rfl, ⟨_, HO1.out⟩, hb⟩
/-- Ends with a row of numbers of its own. -/
def GivesPids (l : List Int) (w : World) (e : Ending) (w' : World) : Prop := ∃ v, e = .returned v ∧ Owns .i64 3 w' w.heap.size v l ∧ Below w.heap.size w w'
set_option maxRecDepth 100000 in
theorem list_any (g n : Nat) (v : BitVec 64) (w : World) (hs : SetAt w g n v) (hn : n ≤ 64) :
    Calls Try.prog 37 #[.pointer (some ⟨g, 0, none⟩)] w (GivesPids (pidsK v n) w) := by
  have hlt := hs.lt
  have hs1 : SetAt (w.alloc (.cells #[.slice none 0 0] 38)) g n v := hs.below ((Below.refl _ _).alloc (Nat.le_refl _) _)
  have ho : OutAt (w.alloc (.cells #[.slice none 0 0] 38)) w.heap.size (.slice none 0 0) [] := ⟨heap_alloc_new _ _, Owns.nil _ _ _ _⟩
  clear hs
  go_enter Try.func37, Try.ntmps37
  go_wp2_with fail
  refine (each_list _ _ _ _ _ hs1 hn hlt ⟨_, ho⟩).mono ?_
  rintro e w2 ⟨rfl, ⟨x, ho2⟩, hb⟩
  have hr2 := ho2.row
  have how := ho2.own
  obtain ⟨a, c, hx⟩ := how.shape
  subst hx
  have c2 : w2.cell? ⟨w.heap.size, 0, none⟩ = some (.slice a (pidsK v n).length c) := by rw [cell_of_row w2 _ _ _ _ _ hr2]; rfl
  clear hr2 ho2 ho
  go_wp2_with fail
  go_ret
  exact ⟨_, rfl, how.mono (by omega), ((Below.refl w.heap.size w).alloc (Nat.le_refl _) _).trans hb⟩
set_option maxRecDepth 100000 in
theorem len_any (g n : Nat) (v : BitVec 64) (w : World) (hs : SetAt w g n v) (hn : n ≤ 64) :
    Calls Try.prog 25 #[.pointer (some ⟨g, 0, none⟩)] w fun e w' => e = .returned (.int .i64 ((pidsK v n).length : Nat)) ∧ Below w.heap.size w w' := by
  go_enter Try.func25, Try.ntmps25
  go_wp2_with fail
  refine (list_any _ _ _ _ hs hn).mono ?_
  rintro e w2 ⟨v2, rfl, ho2, hb⟩
  obtain ⟨a, c, rfl⟩ := ho2.shape
  clear ho2
  go_wp2_with fail
  go_ret
  exact ⟨rfl, hb⟩
end Go.Proofs.Ytnbjodoajfkekaa

namespace Go.Proofs.Ytnbjodoajfkekaa
open Go.RowKit
def bvals (v : BitVec 64) (n : Nat) : List Value := (List.range n).map fun i => .bool (v.getLsbD i)
theorem bvals_len (v : BitVec 64) (n : Nat) : (bvals v n).length = n := by simp [bvals]
theorem bvals_at (v : BitVec 64) {n i : Nat} (h : i < n) : (bvals v n)[i]? = some (.bool (v.getLsbD i)) := by simp [bvals, h]
theorem bvals_out (v : BitVec 64) {n i : Nat} (h : n ≤ i) : (bvals v n)[i]? = none := by simp [bvals, h]
theorem bvals_set (v v' : BitVec 64) {n k : Nat} (b : Bool) (hk : k < n) (h : ∀ i, i < n → v'.getLsbD i = if k = i then b else v.getLsbD i) : (bvals v n).set k (.bool b) = bvals v' n := by
  apply List.ext_getElem?
  intro i
  rw [List.getElem?_set, bvals_len]
  by_cases hi : i < n
  · rw [bvals_at v' hi, bvals_at v hi, h i hi]
    by_cases e : k = i
    · rw [if_pos e, if_pos hk, if_pos e]
    · rw [if_neg e, if_neg e]
  · rw [bvals_out v' (by omega), bvals_out v (by omega)]
    by_cases e : k = i
    · omega
    · rw [if_neg e]
theorem bvals_put (v : BitVec 64) {n k : Nat} (hn : n ≤ 64) (hk : k < n) : (bvals v n).set k (.bool true) = bvals (v ||| qbit k) n :=
  bvals_set v _ true hk fun i hi => by
    rw [put_get _ _ _ (by omega)]
    by_cases e : k = i
    · rw [if_pos e, decide_eq_true e.symm]; simp
    · rw [if_neg e, decide_eq_false (fun h => e h.symm)]; simp
theorem bvals_drop (v : BitVec 64) {n k : Nat} (hn : n ≤ 64) (hk : k < n) : (bvals v n).set k (.bool false) = bvals (v &&& ~~~ qbit k) n :=
  bvals_set v _ false hk fun i hi => by
    rw [drop_get _ _ _ (by omega)]
    by_cases e : k = i
    · rw [if_pos e, decide_eq_true e.symm]; simp
    · rw [if_neg e, decide_eq_false (fun h => e h.symm)]; simp
theorem bvals_zero (n : Nat) : List.replicate n (.bool false) = bvals 0#64 n := by
  apply List.ext_getElem?
  intro i
  by_cases hi : i < n
  · rw [bvals_at _ hi, List.getElem?_replicate, if_pos hi]; simp
  · rw [bvals_out _ (by omega), List.getElem?_replicate, if_neg hi]
theorem SetAt.grown {w w' : World} {g k : Nat} {n : Int} {v : BitVec 64} (r : SetAt w g n v) (hb : w.grownBy w' (some k)) (h1 : g ≠ k) : SetAt w' g n v := by
  unfold SetAt at *
  rw [hb.block g (Array.getElem?_eq_some_iff.1 r).1 (fun e => h1 (Option.some.inj e))]; exact r
theorem set_grown (w : World) (g i : Nat) (x : Value) : w.grownBy (w.setCell ⟨g, i, none⟩ x) (some g) :=
  ⟨rfl, rfl, rfl, by simp, fun k _ hk => heap_setCell_other w ⟨g, i, none⟩ k x (fun e => hk (by simp [e]))⟩
theorem heap_alloc_old (w : World) (o : Obj) {k : Nat} (h : k < w.heap.size) : (w.alloc o).heap[k]? = w.heap[k]? := by
  show (w.heap.push o)[k]? = _
  simp [Array.getElem?_push, Nat.ne_of_lt h]
set_option maxRecDepth 100000 in
theorem boolI : (Try.prog.info? 4).map (fun i => (i.zero, i.size, i.bytes)) = some (some (.bool false), 1, 1) := by kernel_rfl
end Go.Proofs.Ytnbjodoajfkekaa

namespace Go.Proofs.Ytnbjodoajfkekaa
open Go.RowKit
/-- No number from n on is in it. -/
def lowB (v : BitVec 64) (n : Nat) : Prop := ∀ i, n ≤ i → v.getLsbD i = false
theorem lowB_lt {v : BitVec 64} {n : Nat} (h : lowB v n) : v.toNat < 2 ^ n :=
  Nat.lt_pow_two_of_testBit _ fun i hi => by have := h i hi; rw [BitVec.getLsbD] at this; exact this
theorem lowB_zero (n : Nat) : lowB 0#64 n := fun i _ => by simp
theorem lowB_put {v : BitVec 64} {n k : Nat} (h : lowB v n) (hk : k < n) : lowB (v ||| qbit k) n := fun i hi => by
  by_cases h64 : i < 64
  · rw [put_get _ _ _ h64, h i hi, decide_eq_false (by omega)]; rfl
  · rw [BitVec.getLsbD_of_ge _ _ (by omega)]
theorem lowB_drop {v : BitVec 64} {n k : Nat} (h : lowB v n) : lowB (v &&& ~~~ qbit k) n := fun i hi => by
  rw [BitVec.getLsbD_and, h i hi]; rfl
theorem bits_step (v : BitVec 64) (j : Nat) : 2 * (qnum v / 2 ^ (j + 1)) + (if v.getLsbD j = true then 1 else 0) = qnum v / 2 ^ j := by
  unfold qnum
  have h1 : (v.toNat : Int) / 2 ^ j = ((v.toNat / 2 ^ j : Nat) : Int) := by simp
  have h2 : (v.toNat : Int) / 2 ^ (j + 1) = ((v.toNat / 2 ^ j / 2 : Nat) : Int) := by rw [Nat.div_div_eq_div_mul, ← Nat.pow_succ]; simp
  have h3 : v.getLsbD j = decide (v.toNat / 2 ^ j % 2 = 1) := by rw [BitVec.getLsbD, Nat.testBit_eq_decide_div_mod_eq]
  rw [h1, h2, h3]
  by_cases hb : v.toNat / 2 ^ j % 2 = 1
  · rw [decide_eq_true hb, if_pos rfl]; omega
  · rw [decide_eq_false hb, if_neg (by decide)]; omega
/-- What a row of numbers, taken first, makes: none where one may not be. -/
def ofL (n : Int) : BitVec 64 → List Int → Option (BitVec 64)
  | v, [] => some v
  | v, p :: r => if 0 ≤ p ∧ p < n ∧ v.getLsbD p.toNat = false then ofL n (v ||| qbit p.toNat) r else none
end Go.Proofs.Ytnbjodoajfkekaa

namespace Go.Proofs.Ytnbjodoajfkekaa
open Go.RowKit
/-- What Of answers. -/
def OfPost (n : Int) (r : Option (BitVec 64)) (w : World) (e : Ending) (w' : World) : Prop :=
  Below w.heap.size w w' ∧ ((r = none ∧ e = .returned (.tuple #[.pointer none, .int .i64 1])) ∨ ∃ v g, r = some v ∧ e = .returned (.tuple #[.pointer (some ⟨g, 0, none⟩), .int .i64 0]) ∧ w.heap.size ≤ g ∧ SetAt w' g n v)
theorem belowNp {B : Nat} {a w : World} (h : Below B a w) (n : Nat) : Below B a (w.drewN n) := ⟨h.os, h.tape, h.output, h.size, h.block⟩
theorem ofL_drop {n : Int} {v : BitVec 64} {l : List Int} {k : Nat} (hk : k < l.length) :
    ofL n v (l.drop k) = if 0 ≤ nth l k ∧ nth l k < n ∧ v.getLsbD (nth l k).toNat = false then ofL n (v ||| qbit (nth l k).toNat) (l.drop (k + 1)) else none := by
  rw [List.drop_eq_getElem_cons hk, ← nth_eq hk]; rfl
set_option linter.unusedVariables false in
set_option maxRecDepth 100000 in
set_option maxHeartbeats 1000000 in
theorem of_any (n : Nat) (a : Option Addr) (np cp : Nat) (lp : List Int) (w : World) (hr : RdAt .i64 w a np cp lp) (h1 : 1 ≤ n) (h2 : n ≤ 64) (R : Option (BitVec 64)) (hR : ofL n 0#64 lp = R) :
    Calls Try.prog 42 #[.int .i64 n, .slice a np cp] w (OfPost n R w) := by
  have hlen := hr.len
  have hmax := hr.max
  have hcap := hr.cap
  unfold maxLen at hmax
  have HR := Lib.hid hr
  have HL := Lib.hid hlen
  have HRR := Lib.hid hR
  clear hr hlen hR
  go_enter Try.func42, Try.ntmps42
  go_wp2_with fail
  refine (newset_yes n w (by omega) (by omega)).mono ?_
  rintro e w1 ⟨rfl, hs, hb⟩
  have HS := Lib.hid hs
  clear hs
  go_wp2_with fail
  go_loopw [20] (fun i wr => ∃ (k : Nat) (v : BitVec 64), k ≤ np ∧ i = .int .i64 k ∧ SetAt wr w.heap.size n v ∧ Below w.heap.size w wr ∧ Hid (ofL n v (lp.drop k) = R)) (fun i _ => np - (intOf i).toNat)
  case atStart => exact ⟨0, _, by omega, rfl, HS.out, hb, HRR⟩
  case round =>
    clear HS hb
    obtain ⟨k, v, hk, rfl, hs, hb, HO⟩ := hrel
    obtain ⟨c0, c1, cf⟩ := hs.cells
    have HS := Lib.hid hs
    have hb' := hb
    have HB := Lib.hid hb
    clear hs hb
    by_cases hp : k < np
    · obtain ⟨b, ad, rfl, hcell⟩ := (HR.out.below hb').cell k hp
      have hpw := wf_i64_bd (HR.out.wfAt k hp)
      have hst := ofL_drop (n := n) (v := v) (l := lp) (k := k) (by rw [HL.out]; exact hp)
      obtain ⟨p, hpe⟩ : ∃ p, nth lp k = p := ⟨_, rfl⟩
      rw [hpe] at hcell hpw hst
      clear hpe hb'
      have no : ¬ (0 ≤ p ∧ p < n ∧ v.getLsbD p.toNat = false) → R = none := by
        intro hn
        rw [if_neg hn] at hst
        rw [← HO.out, hst]
      by_cases hp0 : p < 0
      · have hd0 : decide (p < 0) = true := decide_eq_true hp0
        have hno := no (by omega)
        clear no hst
        subst hno
        go_wp2_with fail
        go_ret2
        exact ⟨HB.out, .inl ⟨rfl, rfl⟩⟩
      · have hd0 : decide (p < 0) = false := decide_eq_false hp0
        obtain ⟨q, rfl⟩ := Int.eq_ofNat_of_zero_le (show 0 ≤ p by omega)
        by_cases hpn : (q : Int) < n
        · have hd1 : decide ((n : Int) ≤ q) = false := decide_eq_false (by omega)
          have hd1n : decide (n ≤ q) = false := decide_eq_false (by omega)
          have hqn : q < n := by omega
          by_cases hv : v.getLsbD q = true
          · have hbk : hasB n v q = true := by rw [hasB_nat hqn]; exact hv
            have hno := no (by rw [Int.toNat_natCast, hv]; simp)
            clear no hst hv
            subst hno
            go_wp2_with (go_at_call 47; refine (has_any _ _ _ _ _ HS.out (by omega)).mono ?_; rintro e w' ⟨rfl, rfl⟩)
            go_ret2
            exact ⟨HB.out, .inl ⟨rfl, rfl⟩⟩
          · rw [Bool.not_eq_true] at hv
            have hbk : hasB n v q = false := by rw [hasB_nat hqn]; exact hv
            have HQ := Lib.hid (q_put' v q (by omega))
            rw [Int.toNat_natCast, hv, if_pos ⟨by omega, by omega, rfl⟩] at hst
            have HST := Lib.hid hst
            clear hst no hv
            go_wp2_with (go_at_call 47; refine (has_any _ _ _ _ _ HS.out (by omega)).mono ?_; rintro e w' ⟨rfl, rfl⟩)
            go_region
            go_wp2_with fail
            go_roundw
            case rel => exact ⟨k + 1, _, by omega, by go_num, HS.out.put _ _ HQ.out, (HB.out.setCell (Nat.le_refl _) _).drew, by rw [← HO.out, HST.out]; exact Lib.hid rfl⟩
            case measure => simp [intOf] <;> omega
        · have hd1 : decide ((n : Int) ≤ q) = true := decide_eq_true (by omega)
          have hd1n : decide (n ≤ q) = true := decide_eq_true (by omega)
          have hno := no (by omega)
          clear no hst
          subst hno
          go_wp2_with fail
          go_ret2
          exact ⟨HB.out, .inl ⟨rfl, rfl⟩⟩
    · obtain rfl : k = np := by omega
      have hRv : R = some v := by rw [← HO.out, List.drop_of_length_le (by rw [HL.out]; exact Nat.le_refl _)]; rfl
      subst hRv
      clear hb'
      go_wp2_with fail
      go_ret2
      exact ⟨HB.out, .inr ⟨v, _, rfl, rfl, Nat.le_refl _, HS.out⟩⟩
set_option maxRecDepth 100000 in
theorem of_bad (n : Int) (a : Option Addr) (np cp : Nat) (w : World) (h : n < 1 ∨ 64 < n) :
    Calls Try.prog 42 #[.int .i64 n, .slice a np cp] w fun e w' => e = .returned (.tuple #[.pointer none, .int .i64 1]) ∧ w = w' := by
  go_enter Try.func42, Try.ntmps42
  go_wp2_with (go_at_call 24; refine (newset_no _ _ h).mono ?_; rintro e w' ⟨rfl, rfl⟩)
  go_ret2
  exact ⟨rfl, rfl⟩
end Go.Proofs.Ytnbjodoajfkekaa

namespace Go.Proofs.Ytnbjodoajfkekaa
open Go.RowKit
/-- What the closure sees: its flag, its count, the row that is wanted, where it stops. -/
structure Seen (w : World) (A K W S : Nat) (k stop : Int) (a : Option Addr) (n c : Nat) : Prop where
  ok : w.heap[A]? = some (.cells #[.bool true] 4 (0, 0))
  cnt : w.heap[K]? = some (.cells #[.int .i64 k] 3 (0, 0))
  want : w.heap[W]? = some (.cells #[.slice a n c] 38 (0, 0))
  stp : w.heap[S]? = some (.cells #[.int .i64 stop] 3 (0, 0))
def after (w : World) (A K : Nat) (k : Int) : World := (w.setCell ⟨A, 0, none⟩ (.bool true)).setCell ⟨K, 0, none⟩ (.int .i64 k)
theorem after_other (w : World) (A K : Nat) (k : Int) {q : Nat} (h1 : q ≠ A) (h2 : q ≠ K) : (after w A K k).heap[q]? = w.heap[q]? := by
  unfold after
  rw [heap_setCell_other _ ⟨K, 0, none⟩ q _ h2, heap_setCell_other _ ⟨A, 0, none⟩ q _ h1]
theorem Seen.next {w : World} {A K W S : Nat} {k stop : Int} {a : Option Addr} {n c : Nat} (s : Seen w A K W S k stop a n c) (k' : Int) (hAK : A ≠ K) (h1 : W ≠ A) (h2 : W ≠ K) (h3 : S ≠ A) (h4 : S ≠ K) : Seen (after w A K k') A K W S k' stop a n c := by
  refine ⟨?_, ?_, by rw [after_other _ _ _ _ h1 h2]; exact s.want, by rw [after_other _ _ _ _ h3 h4]; exact s.stp⟩
  · unfold after
    rw [heap_setCell_other _ ⟨K, 0, none⟩ A _ hAK, heap_setCell_same w A 0 _ _ _ s.ok]
    rfl
  · unfold after
    rw [heap_setCell_same (w.setCell ⟨A, 0, none⟩ (.bool true)) K 0 _ _ _ (by rw [heap_setCell_other _ ⟨A, 0, none⟩ K _ hAK.symm]; exact s.cnt)]
    rfl
theorem pids_app (v : BitVec 64) (k : Nat) : ∀ m, ∃ r, pidsK v (k + m) = pidsK v k ++ r
  | 0 => ⟨[], by simp⟩
  | m + 1 => by
    obtain ⟨r, h⟩ := pids_app v k m
    rw [← Nat.add_assoc, pidsK, h]
    split
    · exact ⟨r ++ [((k + m : Nat) : Int)], by rw [List.append_assoc]⟩
    · exact ⟨r, rfl⟩
theorem pids_at {v : BitVec 64} {k n : Nat} (hk : k < n) (hv : v.getLsbD k = true) : (pidsK v k).length < (pidsK v n).length ∧ nth (pidsK v n) (pidsK v k).length = k := by
  obtain ⟨r, h⟩ := pids_app v (k + 1) (n - (k + 1))
  rw [show k + 1 + (n - (k + 1)) = n by omega, pidsK, if_pos hv] at h
  rw [h]
  refine ⟨by simp, ?_⟩
  unfold nth
  simp [List.getD]
theorem rd_after {w : World} {A K : Nat} {k : Int} {a : Option Addr} {n c : Nat} {l : List Int} (r : RdAt .i64 w a n c l) (hna : 0 < n → ∀ x, a = some x → x.block ≠ A ∧ x.block ≠ K) : RdAt .i64 (after w A K k) a n c l :=
  ⟨r.len, r.cap, r.max, fun i hi => by
    obtain ⟨b, o, e, hc⟩ := r.cell i hi
    obtain ⟨h1, h2⟩ := hna (by omega) _ e
    refine ⟨b, o, e, ?_⟩
    rw [← hc]
    exact World.cell?_of_block (w := w) (w' := after w A K k) (a := ⟨b, o + i, none⟩) (after_other w A K k h1 h2), r.wf, r.void⟩
theorem below_after {w0 w : World} {A K base : Nat} {k : Int} (h : Below base w0 w) (hA : base ≤ A) (hK : base ≤ K) : Below base w0 (after w A K k) := (h.setCell hA _).setCell hK _
/-- How often Each calls it. -/
def cntE (stop : Int) (len : Nat) : Nat := if (len : Int) ≤ stop then len else min len (max 1 (stop + 1).toNat)
end Go.Proofs.Ytnbjodoajfkekaa

namespace Go.Proofs.Ytnbjodoajfkekaa
open Go.RowKit
theorem below_put {w0 w w' : World} {g : Nat} (hb : Below w0.heap.size w0 w) (hg : w0.heap.size ≤ g) (h : w.grownBy w' (some g)) : Below w0.heap.size w0 w' :=
  hb.grown h hb.size (fun k hk => by injection hk with hk; omega)
theorem first_low {N k : Nat} (hN : N ≤ 64) (hk : k ≤ N) : firstF (lowN k) N = k :=
  firstF_eq hk (fun j hj => by rw [lowN_get j (by omega), decide_eq_true hj]) (fun h => by rw [lowN_get k (by omega), decide_eq_false (by omega)])
end Go.Proofs.Ytnbjodoajfkekaa

namespace Go.Proofs.Ytnbjodoajfkekaa
open Go.RowKit
def tkN (v : BitVec 64) (n : Nat) : Int := if firstF v n < n then (firstF v n : Nat) else 0
def tkE (v : BitVec 64) (n : Nat) : Int := if firstF v n < n then 0 else 5
def tkV (v : BitVec 64) (n : Nat) : BitVec 64 := if firstF v n < n then v ||| qbit (firstF v n) else v
def frE (v : BitVec 64) (n : Nat) (p : Int) : Int := if hasB n v p = true then 0 else 2
def frV (v : BitVec 64) (n : Nat) (p : Int) : BitVec 64 := if hasB n v p = true then v &&& ~~~ qbit p.toNat else v
theorem tkV_low {v : BitVec 64} {n : Nat} (h : lowB v n) : lowB (tkV v n) n := by
  unfold tkV
  split
  · rename_i hf; exact lowB_put h hf
  · exact h
theorem frV_low {v : BitVec 64} {n : Nat} {p : Int} (h : lowB v n) : lowB (frV v n p) n := by
  unfold frV
  split
  · exact lowB_drop h
  · exact h
theorem ofL_low {n : Nat} : ∀ {l : List Int} {v v' : BitVec 64}, lowB v n → ofL n v l = some v' → lowB v' n
  | [], v, v', h, e => by
    rw [ofL] at e
    injection e with e
    rw [← e]; exact h
  | p :: r, v, v', h, e => by
    rw [ofL] at e
    split at e
    · rename_i hc
      exact ofL_low (lowB_put h (by omega)) e
    · cases e
set_option maxRecDepth 100000 in
theorem take_all (g n : Nat) (v : BitVec 64) (w : World) (h : SetAt w g n v) (hn : n ≤ 64) :
    Calls Try.prog 28 #[.pointer (some ⟨g, 0, none⟩)] w fun e w' => e = .returned (.tuple #[.int .i64 (tkN v n), .int .i64 (tkE v n)]) ∧ SetAt w' g n (tkV v n) ∧ w.grownBy w' (some g) := by
  have hle := firstF_le v n
  unfold tkN tkE tkV
  by_cases hf : firstF v n < n
  · rw [if_pos hf, if_pos hf, if_pos hf]
    exact take_yes g n _ v w h hn rfl hf
  · rw [if_neg hf, if_neg hf, if_neg hf]
    refine (take_no g n v w h hn (by omega)).mono ?_
    rintro e w' ⟨rfl, rfl⟩
    exact ⟨rfl, h, World.grownBy.refl _ _⟩
theorem hasB_pos {n v} {p : Int} (h : hasB n v p = true) : 0 ≤ p := by
  unfold hasB at h
  simp only [Bool.and_eq_true, decide_eq_true_eq] at h
  exact h.1
set_option maxRecDepth 100000 in
theorem free_all (g n : Nat) (v : BitVec 64) (p : Int) (w : World) (h : SetAt w g n v) (hn : n ≤ 64) :
    Calls Try.prog 35 #[.pointer (some ⟨g, 0, none⟩), .int .i64 p] w fun e w' => e = .returned (.int .i64 (frE v n p)) ∧ SetAt w' g n (frV v n p) ∧ w.grownBy w' (some g) := by
  unfold frE frV
  by_cases hb : hasB n v p = true
  · rw [if_pos hb, if_pos hb]
    obtain ⟨q, rfl⟩ := Int.eq_ofNat_of_zero_le (hasB_pos hb)
    exact free_yes g n v q w h (by omega) hb
  · rw [if_neg hb, if_neg hb]
    refine (free_no g n v p w h (by omega) (by simpa using hb)).mono ?_
    rintro e w' ⟨rfl, rfl⟩
    exact ⟨rfl, h, World.grownBy.refl _ _⟩
/-- All of it but the sets. -/
def PB (stop : Int) (w0 w : World) : Prop := w.heap[w0.heap.size]? = some (.cells #[.int .i64 stop] 3 (0, 0)) ∧ Below w0.heap.size w0 w
theorem PB.grown {stop : Int} {w0 w w' : World} {k : Nat} (p : PB stop w0 w) (hg : w.grownBy w' (some k)) (hk : w0.heap.size < k) : PB stop w0 w' :=
  ⟨by rw [hg.block _ (Array.getElem?_eq_some_iff.1 p.1).1 (fun e => by injection e with e; omega)]; exact p.1, below_put p.2 (by omega) hg⟩
theorem PB.below {stop : Int} {w0 w w' : World} (p : PB stop w0 w) (hb : Below w.heap.size w w') : PB stop w0 w' :=
  ⟨by rw [hb.block _ (Array.getElem?_eq_some_iff.1 p.1).1]; exact p.1, p.2.trans (hb.mono p.2.size)⟩
/-- A value that reads as a row of numbers. -/
def isInts (l : List Int) (v : Value) (w : World) : Prop := ∃ a c, v = .slice a l.length c ∧ RdAt .i64 w a l.length c l
theorem isInts_stays (l : List Int) : Stays Kept (isInts l) := by
  rintro v w w' ⟨a, c, rfl, h⟩ hb
  exact ⟨a, c, rfl, h.below hb⟩
theorem Owns.isInts {e : TypeId} {w : World} {base : Nat} {v : Value} {l : List Int} (h : Owns .i64 e w base v l) : isInts l v w := by
  obtain ⟨a, c, rfl⟩ := h.shape
  exact ⟨a, c, rfl, h.rd⟩
theorem rd_cell {k : IntKind} {w : World} {b ad n c : Nat} {l : List Int} (h : RdAt k w (some ⟨b, ad, none⟩) n c l) {i : Nat} (hi : i < n) : w.cell? ⟨b, ad + i, none⟩ = some (.int k (nth l i)) := by
  obtain ⟨b', o', e, hc⟩ := h.cell i hi
  injection e with e
  injection e with e1 e2
  subst e1 e2
  exact hc
end Go.Proofs.Ytnbjodoajfkekaa
