/- region: cut, Unmap, joined at every row, Map, Protect, Clean. -/
import Derived.Test.YtoampbdipmecmaaRgAll
import Derived.Test.YtoampbdipmecmaaRgJoin
namespace Go.Proofs.Ytoampbdipmecmaa
open Go.RowKit Go.Shelf Go.Proofs
set_option maxRecDepth 100000 in
theorem cut_any (a : Option Addr) (n c : Nat) (L : List Rg) (lo hi : Int) (w : World) (h : RdS Rg.cells 3 w a n c L) (hn : n ≤ 1000) (hnice : NiceL L) :
    Calls Try.prog 29 #[.slice a n c, .int .i64 lo, .int .i64 hi] w (GivesRgs (cutL L lo hi) w) := by
  by_cases h0 : lo < hi
  · exact cutR_loop a n c L lo hi w h hn h0 (fun r hr => (hnice r hr).1)
  · have e : cutL L lo hi = L := by unfold cutL; rw [if_pos (by omega)]
    rw [e]
    have h1 : hi ≤ lo := by omega
    go_enter Try.func29, Try.ntmps29
    go_wp2_with (go_at_call 31; refine (cloneR_any a n c L w h (by omega)).mono ?_; rintro e w' ⟨v, rfl, ho, hb⟩)
    go_ret
    exact ⟨_, rfl, ho, hb⟩
set_option maxRecDepth 100000 in
theorem unmap_any (a : Option Addr) (n c : Nat) (L : List Rg) (lo hi : Int) (w : World) (h : RdS Rg.cells 3 w a n c L) (hn : n ≤ 1000) (hnice : NiceL L) :
    Calls Try.prog 12 #[.slice a n c, .int .i64 lo, .int .i64 hi] w (GivesRgs (cutL L lo hi) w) := by
  go_enter Try.func12, Try.ntmps12
  go_wp2_with (go_at_call 29; refine (cut_any a n c L lo hi w h hn hnice).mono ?_; rintro e w' ⟨v, rfl, ho, hb⟩)
  go_ret
  exact ⟨_, rfl, ho, hb⟩
theorem joinedL_nil : joinedL [] = [] := by unfold joinedL sortLo; simp [joinedS]
/-- joined, of regions that the call owns. -/
def GivesJoined (L : List Rg) (v : Value) (w : World) (e : Ending) (w' : World) : Prop := ∃ v', e = .returned v' ∧ OwnsS Rg.cells 3 29 w' w.heap.size v' (joinedL L) ∧ w.grownBy w' (room v)
set_option maxRecDepth 100000 in
set_option linter.unusedSimpArgs false in
set_option linter.unusedVariables false in
theorem joined_none (base : Nat) (v : Value) (w : World) (h : OwnsS Rg.cells 3 29 w base v []) : Calls Try.prog 30 #[v] w (GivesJoined [] v w) := by
  obtain ⟨a, c, rfl⟩ := h.shapeN 0 rfl
  have hcon := fun w => AnyF.slices_SortFunc_none sortR a c (.func (.func 39) #[] #[]) w
  change ∀ w, Calls Try.prog 38 _ _ _ at hcon
  have HC := Lib.hid hcon
  clear hcon h
  go_enter Try.func30, Try.ntmps30
  go_wp2_with fail
  refine (HC.out w).mono ?_
  rintro e w' ⟨rfl, rfl⟩
  go_wp2
  go_loop [3, 11] (fun x i => x = .slice none 0 0 ∧ i = .int .i64 0) (fun _ _ => 0)
  case atStart => exact ⟨rfl, rfl⟩
  case round =>
    obtain ⟨rfl, rfl⟩ := hrel
    go_wp2
    go_ret
    exact ⟨_, rfl, by rw [joinedL_nil]; exact OwnsS.nil _ _ _ _ _, World.grownBy.refl _ _⟩
set_option maxRecDepth 100000 in
theorem joined_all (base : Nat) (v : Value) (L : List Rg) (w : World) (h : OwnsS Rg.cells 3 29 w base v L) (hl : ∀ r ∈ L, 0 ≤ r.lo ∧ r.lo ≤ 1099511627776) (hn2 : L.length ≤ 5000)
    (hp : Parted L) (hnice : NiceL L) : Calls Try.prog 30 #[v] w (GivesJoined L v w) := by
  by_cases h0 : 0 < L.length
  · exact joined_loop base v L w h hl h0 hn2 hp hnice
  · obtain rfl : L = [] := List.eq_nil_of_length_eq_zero (by omega)
    exact joined_none base v w h
/-- Ends with regions of its own and an error. -/
def GivesRE (L : List Rg) (err : Int) (w : World) (e : Ending) (w' : World) : Prop := ∃ v, e = .returned (.tuple #[v, .int .i64 err]) ∧ OwnsS Rg.cells 3 29 w' w.heap.size v L ∧ Below w.heap.size w w'
theorem gives_re {L M N : List Rg} {err : Int} {w w1 w2 w3 w4 : World} {v2 v3 v4 : Value} {o : Obj} (hb1 : Below w.heap.size w w1) (hb2 : Below w1.heap.size w1 w2) (ho2 : OwnsS Rg.cells 3 29 w2 w1.heap.size v2 M) (hg3 : Grows (w2.alloc o) v2 w3 v3) (ho3 : OwnsS Rg.cells 3 29 w3 w1.heap.size v3 N)
    (ho4 : OwnsS Rg.cells 3 29 w4 w3.heap.size v4 L) (hg4 : w3.grownBy w4 (room v3)) : GivesRE L err w (.returned (.tuple #[v4, .int .i64 err])) w4 := by
  have h3 : Below w1.heap.size w1 w3 := own_step hb2 ho2 (below_a _ _) hg3
  have h4 : Below w.heap.size w w3 := Below.call hb1 h3
  exact ⟨v4, rfl, ho4.mono h4.size, Below.grown h4 hg4 h4.size (fun k e => Nat.le_trans hb1.size (ho3.at_base k e).1)⟩
set_option maxRecDepth 100000 in
set_option linter.unusedSimpArgs false in
set_option linter.unusedVariables false in
set_option maxHeartbeats 1000000 in
theorem protect_any (a : Option Addr) (n c : Nat) (L : List Rg) (lo hi p : Int) (w : World) (h : RdS Rg.cells 3 w a n c L) (hn : n ≤ 1000) (hnice : NiceL L) (hp : Parted L) (hlo : ∀ r ∈ L, 0 ≤ r.lo ∧ r.hi ≤ 1099511627776) (hhi : hi ≤ 1099511627776) :
    Calls Try.prog 15 #[.slice a n c, .int .i64 lo, .int .i64 hi, .int .i64 p] w (if rightB lo hi p = false then GivesRE [] 1 w else if allL L lo hi (okW 0) = false then GivesRE [] 2 w else GivesRE (joinedL (cutL L lo hi ++ [⟨lo, hi, p⟩])) 0 w) := by
  have HR := Lib.hid (right_any lo hi p)
  have HA : Hid (∀ w1, Below w.heap.size w w1 → Calls Try.prog 14 #[.slice a n c, .int .i64 lo, .int .i64 hi, .int .i64 0] w1 fun e w' => e = .returned (.bool (allL L lo hi (okW 0))) ∧ Below w1.heap.size w1 w') := fun w1 hb => all_any a n c L lo hi 0 w1 (RdS.below h hb) hn
  have HC : Hid (∀ w1, Below w.heap.size w w1 → Calls Try.prog 29 #[.slice a n c, .int .i64 lo, .int .i64 hi] w1 (GivesRgs (cutL L lo hi) w1)) := fun w1 hb => cut_any a n c L lo hi w1 (RdS.below h hb) hn hnice
  obtain ⟨RB, hRB⟩ : ∃ x, rightB lo hi p = x := ⟨_, rfl⟩
  rw [hRB] at HR ⊢
  cases RB with
  | false =>
    clear h HA HC
    go_enter Try.func15, Try.ntmps15
    go_wp2_with (go_at_call 28; refine (HR.out _).mono ?_; rintro e w' ⟨rfl, rfl⟩)
    go_ret2
    exact ⟨_, rfl, OwnsS.nil _ _ _ _ _, Below.refl _ _⟩
  | true =>
    rw [if_neg (by decide)]
    obtain ⟨AB, hAB⟩ : ∃ x, allL L lo hi (okW 0) = x := ⟨_, rfl⟩
    rw [hAB] at HA ⊢
    cases AB with
    | false =>
      clear h HC
      go_enter Try.func15, Try.ntmps15
      go_wp2_with (first | (go_at_call 28; refine (HR.out _).mono ?_; rintro e w' ⟨rfl, rfl⟩) | (go_at_call 14; refine (HA.out w (Below.refl _ _)).mono ?_; rintro e w1 ⟨rfl, hb1⟩))
      go_ret2
      exact ⟨_, rfl, OwnsS.nil _ _ _ _ _, hb1⟩
    | true =>
      rw [if_neg (by decide)]
      unfold rightB protB at hRB
      simp only [Bool.and_eq_true, decide_eq_true_eq] at hRB
      obtain ⟨r1, r2, r3, r4⟩ := hRB
      have HJ : Hid (∀ base v w1, OwnsS Rg.cells 3 29 w1 base v (cutL L lo hi ++ [⟨lo, hi, p⟩]) → Calls Try.prog 30 #[v] w1 (GivesJoined (cutL L lo hi ++ [⟨lo, hi, p⟩]) v w1)) := fun base v w1 ho => by
        refine joined_all base v _ w1 ho (fun r hr => ?_) ?_ ((cutL_parted hp r2).snoc (r := ⟨lo, hi, p⟩) (cutL_apart (r := ⟨lo, hi, p⟩) r2)) ((cutL_nice hnice r2).snoc ⟨r2, r3⟩)
        · rcases List.mem_append.1 hr with hr | hr
          · obtain ⟨q, hq, q1, q2, q3, _⟩ := cutL_mem r2 hr
            have := hlo q hq
            omega
          · obtain rfl := List.mem_singleton.1 hr
            exact ⟨r1, by show lo ≤ _; omega⟩
        · have := cutL_len L lo hi
          have := h.len
          simp
          omega
      have HL : Hid ((cutL L lo hi).length ≤ 2000) := by
        show _ ≤ _
        have := cutL_len L lo hi
        have := h.len
        omega
      clear h r1 r2 r3 r4 hAB hp hnice hlo hhi
      go_enter Try.func15, Try.ntmps15
      go_wp2_with (first | (go_at_call 28; refine (HR.out _).mono ?_; rintro e w' ⟨rfl, rfl⟩) | (go_at_call 14; refine (HA.out w (Below.refl _ _)).mono ?_; rintro e w1 ⟨rfl, hb1⟩) | (go_at_call 29; refine (HC.out w1 hb1).mono ?_; rintro e w2 ⟨v2, rfl, ho2, hb2⟩) | (at_builtin; refine appS_one rgC Try.underlying22 rgI rfl (by decide) rfl (.tmp 25) (.tmp 30) rfl _ w1.heap.size _ _ rfl (ho2.alloc _) _ 1 ⟨lo, hi, p⟩ rfl (heap_alloc_new _ _) (by have := HL.out; omega) (by have := hb2.size; simp; omega) ?_; intro v3 w3 ho3 hg3) | (go_at_call 30; refine (HJ.out w1.heap.size v3 w3 ho3).mono ?_; rintro e w4 ⟨v4, rfl, ho4, hg4⟩))
      go_ret2
      exact gives_re hb1 hb2 ho2 hg3 ho3 ho4 hg4
end Go.Proofs.Ytoampbdipmecmaa
