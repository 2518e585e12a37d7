/- What Map, Protect, Unmap, Clean make, the program's and the document's alike. -/
import Derived.Test.YtoampbdipmecmaaRgSame
namespace Go.Proofs.Ytoampbdipmecmaa
open Go.RowKit
/-- Regions that are right, not too many: what Clean, Map, Protect and Unmap make. -/
structure Cn (m : Nat) (C : List Rg) : Prop where
  canon : Canon 0 (-1) C
  few : C.length ≤ m
  lo : Within 1099511627776 C
theorem Cn.nice {m : Nat} {C : List Rg} (h : Cn m C) : NiceL C := h.canon.rising.nice
theorem Cn.parted {m : Nat} {C : List Rg} (h : Cn m C) : Parted C := h.canon.rising.parted
theorem Cn.ends {m : Nat} {C : List Rg} (h : Cn m C) : ∀ r ∈ C, 0 ≤ r.lo ∧ r.hi ≤ 1099511627776 := fun r hr => ⟨(h.lo r hr).1, (h.lo r hr).2.1⟩
theorem Cn.sm {m : Nat} {C : List Rg} (h : Cn m C) : ∀ r ∈ C, r.Sm := fun r hr => by
  have h1 := h.lo r hr
  have h2 := h.nice r hr
  exact ⟨by omega, by omega, by omega⟩
theorem Cn.wf {m : Nat} {C : List Rg} (h : Cn m C) : ∀ r ∈ C, r.Wf := fun r hr => (h.sm r hr).wf
theorem Cn.more {m m' : Nat} {C : List Rg} (h : Cn m C) (hm : m ≤ m') : Cn m' C := ⟨h.canon, Nat.le_trans h.few hm, h.lo⟩
theorem joinedL_few (l : List Rg) : (joinedL l).length ≤ l.length := by
  unfold joinedL
  have h := joinedS_le (sortLo l)
  rwa [(sortLo_perm l).length_eq] at h
theorem clean_cn {L : List Rg} {n : Nat} (h : L.length ≤ n) : Cn (2 * n) (cleanL L) := by
  refine ⟨cleanL_canon L, ?_, fun r hr => by have := cleanL_within L r hr; omega⟩
  have h1 := joinedL_few (laidL L)
  have h2 := laidL_len L L.length
  rw [List.take_length] at h2
  show (joinedL (laidL L)).length ≤ _
  omega
theorem protect_cn {m : Nat} {C : List Rg} {lo hi p : Int} (h : Cn m C) (h0 : 0 ≤ lo) (hl : lo < hi) (hh : hi ≤ 1099511627776) (hp : 0 ≤ p ∧ p ≤ 3) : Cn (m + 2) (withL C lo hi p) := by
  rw [← protect_with h.canon h0 hl hp.1]
  have hpart := (cutL_parted h.parted hl).snoc (r := ⟨lo, hi, p⟩) (cutL_apart (r := ⟨lo, hi, p⟩) hl)
  have hnice := (cutL_nice h.nice hl).snoc (r := ⟨lo, hi, p⟩) ⟨hl, hp.1⟩
  refine ⟨joinedL_canon hpart hnice (snoc_low (fun s hs => ((cutL_rising h.canon.rising hl).mem s hs).1) h0), ?_, joinedL_within ?_⟩
  · refine Nat.le_trans (joinedL_few _) ?_
    rw [List.length_append]
    have := cutL_one hl h.parted
    have := h.few
    simp
    omega
  · intro r hr
    rcases List.mem_append.1 hr with hr | hr
    · exact cutL_within h.lo r hr
    · obtain rfl := List.mem_singleton.1 hr
      exact ⟨h0, hh, hp.2⟩
def unL (C : List Rg) (lo hi : Int) : List Rg := if hi ≤ lo then C else withL C lo hi (-1)
theorem unL_cut {m : Nat} {C : List Rg} {lo hi : Int} (h : Cn m C) : cutL C lo hi = unL C lo hi := by
  unfold unL
  by_cases h0 : hi ≤ lo
  · rw [if_pos h0]
    unfold cutL
    rw [if_pos h0]
  · rw [if_neg h0, unmap_with h.canon (by omega)]
theorem un_cn {m : Nat} {C : List Rg} {lo hi : Int} (h : Cn m C) : Cn (m + 1) (unL C lo hi) := by
  rw [← unL_cut h]
  by_cases h0 : hi ≤ lo
  · unfold cutL
    rw [if_pos h0]
    exact h.more (by omega)
  · have hl : lo < hi := by omega
    exact ⟨cutL_canon h.canon hl, by have := cutL_one hl h.parted; have := h.few; omega, cutL_within h.lo⟩
def mapE (C : List Rg) (lo hi p : Int) : Int := if rightB lo hi p = false then 1 else if usedB C lo hi = true then 3 else 0
def mapL (C : List Rg) (lo hi p : Int) : List Rg := if mapE C lo hi p = 0 then withL C lo hi p else []
def proE (C : List Rg) (lo hi p : Int) : Int := if rightB lo hi p = false then 1 else if refAll C lo hi (okW 0) = false then 2 else 0
def proL (C : List Rg) (lo hi p : Int) : List Rg := if proE C lo hi p = 0 then withL C lo hi p else []
theorem map_ok {C : List Rg} {lo hi p : Int} (h : mapE C lo hi p = 0) : (0 ≤ lo ∧ lo < hi ∧ 0 ≤ p ∧ p ≤ 3) ∧ usedB C lo hi = false ∧ mapL C lo hi p = withL C lo hi p := by
  refine ⟨?_, ?_, by unfold mapL; rw [if_pos h]⟩
  · cases e : rightB lo hi p with
    | true => exact rightB_iff e
    | false => unfold mapE at h; rw [if_pos e] at h; cases h
  · cases e : rightB lo hi p with
    | false => unfold mapE at h; rw [if_pos e] at h; cases h
    | true =>
      unfold mapE at h
      rw [if_neg (by simp [e])] at h
      cases e2 : usedB C lo hi with
      | false => rfl
      | true => rw [if_pos e2] at h; cases h
theorem pro_ok {C : List Rg} {lo hi p : Int} (h : proE C lo hi p = 0) : (0 ≤ lo ∧ lo < hi ∧ 0 ≤ p ∧ p ≤ 3) ∧ refAll C lo hi (okW 0) = true ∧ proL C lo hi p = withL C lo hi p := by
  refine ⟨?_, ?_, by unfold proL; rw [if_pos h]⟩
  · cases e : rightB lo hi p with
    | true => exact rightB_iff e
    | false => unfold proE at h; rw [if_pos e] at h; cases h
  · cases e : rightB lo hi p with
    | false => unfold proE at h; rw [if_pos e] at h; cases h
    | true =>
      unfold proE at h
      rw [if_neg (by simp [e])] at h
      cases e2 : refAll C lo hi (okW 0) with
      | true => rfl
      | false => rw [if_pos e2] at h; cases h
theorem map_cn {m : Nat} {C : List Rg} {lo hi p : Int} (h : Cn m C) (hh : hi ≤ 1099511627776) : Cn (m + 2) (mapL C lo hi p) := by
  by_cases e : mapE C lo hi p = 0
  · obtain ⟨h1, _, h3⟩ := map_ok e
    rw [h3]
    exact protect_cn h h1.1 h1.2.1 hh h1.2.2
  · unfold mapL
    rw [if_neg e]
    exact ⟨trivial, by simp, fun r hr => (List.not_mem_nil hr).elim⟩
theorem pro_cn {m : Nat} {C : List Rg} {lo hi p : Int} (h : Cn m C) (hh : hi ≤ 1099511627776) : Cn (m + 2) (proL C lo hi p) := by
  by_cases e : proE C lo hi p = 0
  · obtain ⟨h1, _, h3⟩ := pro_ok e
    rw [h3]
    exact protect_cn h h1.1 h1.2.1 hh h1.2.2
  · unfold proL
    rw [if_neg e]
    exact ⟨trivial, by simp, fun r hr => (List.not_mem_nil hr).elim⟩
set_option maxRecDepth 100000 in
theorem map_out {m : Nat} (a : Option Addr) (n c : Nat) (C : List Rg) (lo hi p : Int) (w : World) (h : RdS Rg.cells 3 w a n c C) (hc : Cn m C) (hm : m ≤ 900) (hh : hi ≤ 1099511627776) :
    Calls Try.prog 10 #[.slice a n c, .int .i64 lo, .int .i64 hi, .int .i64 p] w (GivesRE (mapL C lo hi p) (mapE C lo hi p) w) := by
  have hn : n ≤ 1000 := by have := h.len; have := hc.few; omega
  cases e : rightB lo hi p with
  | false =>
    have e1 : mapE C lo hi p = 1 := by unfold mapE; rw [if_pos e]
    have e2 : mapL C lo hi p = [] := by unfold mapL; rw [e1]; rfl
    rw [e1, e2]
    exact map_arg a n c lo hi p w e
  | true =>
    obtain ⟨r1, r2, r3, r4⟩ := rightB_iff e
    refine (map_yes a n c C lo hi p w h hn hc.nice hc.parted hc.ends hh e).mono fun en w' k => ?_
    unfold GivesMap at k
    cases e2 : usedB C lo hi with
    | true =>
      have e3 : mapE C lo hi p = 3 := by unfold mapE; rw [if_neg (by simp [e]), if_pos e2]
      have e4 : mapL C lo hi p = [] := by unfold mapL; rw [e3]; rfl
      rw [if_neg (fun x => by rw [(used_pieces hc.nice r2).2 x] at e2; cases e2)] at k
      rw [e3, e4]
      exact k
    | false =>
      have e3 : mapE C lo hi p = 0 := by unfold mapE; rw [if_neg (by simp [e]), if_neg (by simp [e2])]
      have e4 : mapL C lo hi p = withL C lo hi p := by unfold mapL; rw [if_pos e3]
      have hp := (used_pieces hc.nice r2).1 e2
      rw [if_pos hp, map_with hc.canon r1 r2 r3 ((pieces_none hc.nice r2).1 hp)] at k
      rw [e3, e4]
      exact k
set_option maxRecDepth 100000 in
theorem refmap_out {m : Nat} (a : Option Addr) (n c : Nat) (C : List Rg) (lo hi p : Int) (w : World) (h : RdS Rg.cells 3 w a n c C) (hc : Cn m C) (hm : m ≤ 900) (hlo : (Lit.int .i64 lo).wf = true) (hhi : (Lit.int .i64 hi).wf = true) :
    Calls Try.prog 20 #[.slice a n c, .int .i64 lo, .int .i64 hi, .int .i64 p] w (GivesRE (mapL C lo hi p) (mapE C lo hi p) w) := by
  have hn : n ≤ 1000 := by have := h.len; have := hc.few; omega
  cases e : rightB lo hi p with
  | false =>
    have e1 : mapE C lo hi p = 1 := by unfold mapE; rw [if_pos e]
    have e2 : mapL C lo hi p = [] := by unfold mapL; rw [e1]; rfl
    rw [e1, e2]
    exact refmap_arg a n c lo hi p w e
  | true =>
    refine (refmap_yes a n c C lo hi p w h hn hc.wf hlo hhi e).mono fun en w' k => ?_
    unfold GivesRMap at k
    cases e2 : usedB C lo hi with
    | true =>
      have e3 : mapE C lo hi p = 3 := by unfold mapE; rw [if_neg (by simp [e]), if_pos e2]
      have e4 : mapL C lo hi p = [] := by unfold mapL; rw [e3]; rfl
      rw [if_pos e2] at k
      rw [e3, e4]
      exact k
    | false =>
      have e3 : mapE C lo hi p = 0 := by unfold mapE; rw [if_neg (by simp [e]), if_neg (by simp [e2])]
      have e4 : mapL C lo hi p = withL C lo hi p := by unfold mapL; rw [if_pos e3]
      rw [if_neg (by simp [e2])] at k
      rw [e3, e4]
      exact k
set_option maxRecDepth 100000 in
theorem pro_out {m : Nat} (a : Option Addr) (n c : Nat) (C : List Rg) (lo hi p : Int) (w : World) (h : RdS Rg.cells 3 w a n c C) (hc : Cn m C) (hm : m ≤ 900) (hh : hi ≤ 1099511627776) :
    Calls Try.prog 15 #[.slice a n c, .int .i64 lo, .int .i64 hi, .int .i64 p] w (GivesRE (proL C lo hi p) (proE C lo hi p) w) := by
  have hn : n ≤ 1000 := by have := h.len; have := hc.few; omega
  refine (protect_any a n c C lo hi p w h hn hc.nice hc.parted hc.ends hh).mono fun en w' k => ?_
  cases e : rightB lo hi p with
  | false =>
    have e1 : proE C lo hi p = 1 := by unfold proE; rw [if_pos e]
    have e2 : proL C lo hi p = [] := by unfold proL; rw [e1]; rfl
    rw [if_pos e] at k
    rw [e1, e2]
    exact k
  | true =>
    obtain ⟨r1, r2, r3, r4⟩ := rightB_iff e
    rw [if_neg (by simp [e]), all_ref hc.canon.rising r1] at k
    cases e2 : refAll C lo hi (okW 0) with
    | false =>
      have e3 : proE C lo hi p = 2 := by unfold proE; rw [if_neg (by simp [e]), if_pos e2]
      have e4 : proL C lo hi p = [] := by unfold proL; rw [e3]; rfl
      rw [if_pos e2] at k
      rw [e3, e4]
      exact k
    | true =>
      have e3 : proE C lo hi p = 0 := by unfold proE; rw [if_neg (by simp [e]), if_neg (by simp [e2])]
      have e4 : proL C lo hi p = withL C lo hi p := by unfold proL; rw [if_pos e3]
      rw [if_neg (by simp [e2]), protect_with hc.canon r1 r2 r3] at k
      rw [e3, e4]
      exact k
set_option maxRecDepth 100000 in
theorem refpro_out {m : Nat} (a : Option Addr) (n c : Nat) (C : List Rg) (lo hi p : Int) (w : World) (h : RdS Rg.cells 3 w a n c C) (hc : Cn m C) (hm : m ≤ 900) (hlo : (Lit.int .i64 lo).wf = true) (hhi : (Lit.int .i64 hi).wf = true) :
    Calls Try.prog 21 #[.slice a n c, .int .i64 lo, .int .i64 hi, .int .i64 p] w (GivesRE (proL C lo hi p) (proE C lo hi p) w) := by
  have hn : n ≤ 1000 := by have := h.len; have := hc.few; omega
  cases e : rightB lo hi p with
  | false =>
    have e1 : proE C lo hi p = 1 := by unfold proE; rw [if_pos e]
    have e2 : proL C lo hi p = [] := by unfold proL; rw [e1]; rfl
    rw [e1, e2]
    exact refprotect_arg a n c lo hi p w e
  | true =>
    refine (refprotect_yes a n c C lo hi p w h hn hc.wf hlo hhi e).mono fun en w' k => ?_
    cases e2 : refAll C lo hi (okW 0) with
    | false =>
      have e3 : proE C lo hi p = 2 := by unfold proE; rw [if_neg (by simp [e]), if_pos e2]
      have e4 : proL C lo hi p = [] := by unfold proL; rw [e3]; rfl
      rw [if_pos e2] at k
      rw [e3, e4]
      exact k
    | true =>
      have e3 : proE C lo hi p = 0 := by unfold proE; rw [if_neg (by simp [e]), if_neg (by simp [e2])]
      have e4 : proL C lo hi p = withL C lo hi p := by unfold proL; rw [if_pos e3]
      rw [if_neg (by simp [e2])] at k
      rw [e3, e4]
      exact k
set_option maxRecDepth 100000 in
theorem un_out {m : Nat} (a : Option Addr) (n c : Nat) (C : List Rg) (lo hi : Int) (w : World) (h : RdS Rg.cells 3 w a n c C) (hc : Cn m C) (hm : m ≤ 900) :
    Calls Try.prog 12 #[.slice a n c, .int .i64 lo, .int .i64 hi] w (GivesRgs (unL C lo hi) w) := by
  have hn : n ≤ 1000 := by have := h.len; have := hc.few; omega
  have := unmap_any a n c C lo hi w h hn hc.nice
  rwa [unL_cut hc] at this
set_option maxRecDepth 100000 in
theorem refun_out {m : Nat} (a : Option Addr) (n c : Nat) (C : List Rg) (lo hi : Int) (w : World) (h : RdS Rg.cells 3 w a n c C) (hc : Cn m C) (hm : m ≤ 900) (hlo : (Lit.int .i64 lo).wf = true) (hhi : (Lit.int .i64 hi).wf = true) :
    Calls Try.prog 22 #[.slice a n c, .int .i64 lo, .int .i64 hi] w (GivesRgs (unL C lo hi) w) := by
  have hn : n ≤ 1000 := by have := h.len; have := hc.few; omega
  exact refunmap_any a n c C lo hi w h hn hc.wf hlo hhi
set_option maxRecDepth 100000 in
theorem refclean_out (a : Option Addr) (n c : Nat) (L : List Rg) (w : World) (h : RdS Rg.cells 3 w a n c L) (hn : n ≤ 400) :
    Calls Try.prog 17 #[.slice a n c] w (GivesRgs (cleanL L) w) := by
  rw [clean_ref]
  exact refclean_any a n c L w h hn
theorem right_canon {m : Int} : ∀ {l : List Rg} {q : Rg}, Canon q.hi q.p l → Within m l → rightGo m (some q) l = true
  | [], _, _, _ => rfl
  | r :: l, q, ⟨h1, h2, h3, h4, h5⟩, hw => by
    have hr := hw r (List.mem_cons_self ..)
    rw [rightGo, right_canon h5 (fun s hs => hw s (List.mem_cons_of_mem _ hs))]
    have e1 : rightOne m r = true := by
      unfold rightOne
      rw [decide_eq_true hr.1, decide_eq_true h2, decide_eq_true hr.2.1, decide_eq_true h3, decide_eq_true hr.2.2]
      rfl
    have e2 : rightTwo (some q) r = true := by
      show (!decide (r.lo < q.hi) && !(decide (q.hi = r.lo) && decide (q.p = r.p))) = true
      rw [decide_eq_false (by omega)]
      by_cases e : q.hi = r.lo
      · rw [decide_eq_false (p := q.p = r.p) (fun x => h4 e.symm x.symm)]
        simp
      · rw [decide_eq_false e]
        rfl
    rw [e1, e2]
    rfl
theorem clean_right (L : List Rg) : rightL (cleanL L) 1073741824 = true := by
  have h1 := cleanL_canon L
  have h2 := cleanL_within L
  unfold rightL
  cases e : cleanL L with
  | nil => rfl
  | cons r l =>
    rw [e] at h1 h2
    obtain ⟨q1, q2, q3, q4, q5⟩ := h1
    have hr := h2 r (List.mem_cons_self ..)
    rw [rightGo, right_canon q5 (fun s hs => h2 s (List.mem_cons_of_mem _ hs))]
    have e1 : rightOne 1073741824 r = true := by
      unfold rightOne
      rw [decide_eq_true hr.1, decide_eq_true q2, decide_eq_true hr.2.1, decide_eq_true q3, decide_eq_true hr.2.2]
      rfl
    rw [e1]
    rfl
end Go.Proofs.Ytoampbdipmecmaa
