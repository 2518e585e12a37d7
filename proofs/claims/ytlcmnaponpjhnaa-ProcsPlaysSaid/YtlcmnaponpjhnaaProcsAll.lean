/- Take and Free, whatever there is: contracts of the program's and the reference's. -/
import Derived.Test.YtlcmnaponpjhnaaProcsEach
import Derived.Test.YtlcmnaponpjhnaaProcsLeast
import Derived.Test.YtlcmnaponpjhnaaFree
import Derived.Test.YtlcmnaponpjhnaaOrder
namespace Go.Proofs.Ytlcmnaponpjhnaa
open Go.RowKit
def tkN (v : BitVec 64) (n : Nat) : Int := if firstF v n < n then (firstF v n : Nat) else 0
def tkE (v : BitVec 64) (n : Nat) : Int := if firstF v n < n then 0 else 5
def tkV (v : BitVec 64) (n : Nat) : BitVec 64 := if firstF v n < n then v ||| qbit (firstF v n) else v
def frE (v : BitVec 64) (n : Nat) (p : Int) : Int := if hasB n v p = true then 0 else 2
def frV (v : BitVec 64) (n : Nat) (p : Int) : BitVec 64 := if hasB n v p = true then v &&& ~~~ qbit p.toNat else v
theorem tkV_low {v : BitVec 64} {n : Nat} (h : lowB v n) : lowB (tkV v n) n := by
  unfold tkV
  split
  · rename_i hf; exact lowB_put h hf
  · exact h
theorem frV_low {v : BitVec 64} {n : Nat} {p : Int} (h : lowB v n) : lowB (frV v n p) n := by
  unfold frV
  split
  · exact lowB_drop h
  · exact h
theorem ofL_low {n : Nat} : ∀ {l : List Int} {v v' : BitVec 64}, lowB v n → ofL n v l = some v' → lowB v' n
  | [], v, v', h, e => by
    rw [ofL] at e
    injection e with e
    rw [← e]; exact h
  | p :: r, v, v', h, e => by
    rw [ofL] at e
    split at e
    · rename_i hc
      exact ofL_low (lowB_put h (by omega)) e
    · cases e
theorem take_all (g n : Nat) (v : BitVec 64) (w : World) (h : SetAt w g n v) (hn : n ≤ 64) :
    Calls Try.prog 7 #[.pointer (some ⟨g, 0, none⟩)] w fun e w' => e = .returned (.tuple #[.int .i64 (tkN v n), .int .i64 (tkE v n)]) ∧ SetAt w' g n (tkV v n) ∧ w.grownBy w' (some g) := by
  have hle := firstF_le v n
  unfold tkN tkE tkV
  by_cases hf : firstF v n < n
  · rw [if_pos hf, if_pos hf, if_pos hf]
    exact take_yes g n _ v w h hn rfl hf
  · rw [if_neg hf, if_neg hf, if_neg hf]
    refine (take_no g n v w h hn (by omega)).mono ?_
    rintro e w' ⟨rfl, rfl⟩
    exact ⟨rfl, h, World.grownBy.refl _ _⟩
theorem rtake_all (g h n : Nat) (v : BitVec 64) (w : World) (r : RSetAt w g h n v) (hn : n ≤ 64) :
    Calls Try.prog 15 #[.pointer (some ⟨g, 0, none⟩)] w fun e w' => e = .returned (.tuple #[.int .i64 (tkN v n), .int .i64 (tkE v n)]) ∧ RSetAt w' g h n (tkV v n) ∧ w.grownBy w' (some h) := by
  have hle := firstF_le v n
  unfold tkN tkE tkV
  by_cases hf : firstF v n < n
  · rw [if_pos hf, if_pos hf, if_pos hf]
    exact rtake_yes g h n _ v w r hn rfl hf
  · rw [if_neg hf, if_neg hf, if_neg hf]
    refine (rtake_no g h n v w r hn (by omega)).mono ?_
    rintro e w' ⟨rfl, rfl⟩
    exact ⟨rfl, r, World.grownBy.refl _ _⟩
theorem hasB_pos {n v} {p : Int} (h : hasB n v p = true) : 0 ≤ p := by
  unfold hasB at h
  simp only [Bool.and_eq_true, decide_eq_true_eq] at h
  exact h.1
theorem free_all (g n : Nat) (v : BitVec 64) (p : Int) (w : World) (h : SetAt w g n v) (hn : n ≤ 64) :
    Calls Try.prog 8 #[.pointer (some ⟨g, 0, none⟩), .int .i64 p] w fun e w' => e = .returned (.int .i64 (frE v n p)) ∧ SetAt w' g n (frV v n p) ∧ w.grownBy w' (some g) := by
  unfold frE frV
  by_cases hb : hasB n v p = true
  · rw [if_pos hb, if_pos hb]
    obtain ⟨q, rfl⟩ := Int.eq_ofNat_of_zero_le (hasB_pos hb)
    exact free_yes g n v q w h (by omega) hb
  · rw [if_neg hb, if_neg hb]
    refine (free_no g n v p w h (by omega) (by simpa using hb)).mono ?_
    rintro e w' ⟨rfl, rfl⟩
    exact ⟨rfl, h, World.grownBy.refl _ _⟩
theorem rfree_all (g h n : Nat) (v : BitVec 64) (p : Int) (w : World) (r : RSetAt w g h n v) (hn : n ≤ 64) :
    Calls Try.prog 16 #[.pointer (some ⟨g, 0, none⟩), .int .i64 p] w fun e w' => e = .returned (.int .i64 (frE v n p)) ∧ RSetAt w' g h n (frV v n p) ∧ w.grownBy w' (some h) := by
  unfold frE frV
  by_cases hb : hasB n v p = true
  · rw [if_pos hb, if_pos hb]
    obtain ⟨q, rfl⟩ := Int.eq_ofNat_of_zero_le (hasB_pos hb)
    exact rfree_yes g h n v q w r hn hb
  · rw [if_neg hb, if_neg hb]
    refine (rfree_no g h n v p w r (by simpa using hb)).mono ?_
    rintro e w' ⟨rfl, rfl⟩
    exact ⟨rfl, r, World.grownBy.refl _ _⟩
/-- Both sets, as a play goes on. -/
structure PP (stop : Int) (w0 w : World) (g g2 h N : Nat) (v : BitVec 64) : Prop where
  s : SetAt w g N v
  r : RSetAt w g2 h N v
  low : lowB v N
  st : w.heap[w0.heap.size]? = some (.cells #[.int .i64 stop] 3 (0, 0))
  bel : Below w0.heap.size w0 w
  lo : w0.heap.size < g ∧ w0.heap.size < g2 ∧ w0.heap.size < h ∧ g ≠ g2 ∧ g ≠ h
/-- All of it but the sets. -/
def PB (stop : Int) (w0 w : World) : Prop := w.heap[w0.heap.size]? = some (.cells #[.int .i64 stop] 3 (0, 0)) ∧ Below w0.heap.size w0 w
theorem PB.grown {stop : Int} {w0 w w' : World} {k : Nat} (p : PB stop w0 w) (hg : w.grownBy w' (some k)) (hk : w0.heap.size < k) : PB stop w0 w' :=
  ⟨by rw [hg.block _ (Array.getElem?_eq_some_iff.1 p.1).1 (fun e => by injection e with e; omega)]; exact p.1, below_put p.2 (by omega) hg⟩
theorem PB.below {stop : Int} {w0 w w' : World} (p : PB stop w0 w) (hb : Below w.heap.size w w') : PB stop w0 w' :=
  ⟨by rw [hb.block _ (Array.getElem?_eq_some_iff.1 p.1).1]; exact p.1, p.2.trans (hb.mono p.2.size)⟩
theorem PP.pb {stop : Int} {w0 w : World} {g g2 h N : Nat} {v : BitVec 64} (p : PP stop w0 w g g2 h N v) : PB stop w0 w := ⟨p.st, p.bel⟩
theorem PP.below {stop : Int} {w0 w w' : World} {g g2 h N : Nat} {v : BitVec 64} (p : PP stop w0 w g g2 h N v) (hb : Below w.heap.size w w') : PP stop w0 w' g g2 h N v :=
  ⟨p.s.below hb, p.r.below hb, p.low, (p.pb.below hb).1, (p.pb.below hb).2, p.lo⟩
theorem PP.turn {stop : Int} {w0 w w1 w2 : World} {g g2 h N : Nat} {v v' : BitVec 64} (p : PP stop w0 w g g2 h N v) (hs : SetAt w1 g N v') (hg : w.grownBy w1 (some g)) (hr : RSetAt w2 g2 h N v') (hh : w1.grownBy w2 (some h)) (hl : lowB v' N) : PP stop w0 w2 g g2 h N v' :=
  ⟨hs.grown hh p.lo.2.2.2.2, hr, hl, ((p.pb.grown hg p.lo.1).grown hh p.lo.2.2.1).1, ((p.pb.grown hg p.lo.1).grown hh p.lo.2.2.1).2, p.lo⟩
/-- How a play begins: none of both sets, or both. -/
def PPStart (stop : Int) (w0 : World) (N : Nat) (s e r f : Value) (w : World) : Prop :=
  (s = .pointer none ∧ e = .int .i64 1 ∧ r = .pointer none ∧ f = .int .i64 1 ∧ Below w0.heap.size w0 w) ∨
  ∃ v g g2 h, s = .pointer (some ⟨g, 0, none⟩) ∧ e = .int .i64 0 ∧ r = .pointer (some ⟨g2, 0, none⟩) ∧ f = .int .i64 0 ∧ PP stop w0 w g g2 h N v
/-- A value that reads as a row of numbers. -/
def isInts (l : List Int) (v : Value) (w : World) : Prop := ∃ a c, v = .slice a l.length c ∧ RdAt .i64 w a l.length c l
theorem isInts_stays (l : List Int) : Stays Kept (isInts l) := by
  rintro v w w' ⟨a, c, rfl, h⟩ hb
  exact ⟨a, c, rfl, h.below hb⟩
theorem Owns.isInts {e : TypeId} {w : World} {base : Nat} {v : Value} {l : List Int} (h : Owns .i64 e w base v l) : isInts l v w := by
  obtain ⟨a, c, rfl⟩ := h.shape
  exact ⟨a, c, rfl, h.rd⟩
theorem rd_cell {k : IntKind} {w : World} {b ad n c : Nat} {l : List Int} (h : RdAt k w (some ⟨b, ad, none⟩) n c l) {i : Nat} (hi : i < n) : w.cell? ⟨b, ad + i, none⟩ = some (.int k (nth l i)) := by
  obtain ⟨b', o', e, hc⟩ := h.cell i hi
  injection e with e
  injection e with e1 e2
  subst e1 e2
  exact hc
end Go.Proofs.Ytlcmnaponpjhnaa
