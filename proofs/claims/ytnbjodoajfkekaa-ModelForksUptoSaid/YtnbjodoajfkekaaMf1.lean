/- Whether an operation has just its kind's fields, by the document. A fork, plainly: how much it weighs; what another process does leaves one as it was. model: a row of slices of bytes beside a machine (as ring's, with Tn for what turned). -/
import Derived.Test.YtnbjodoajfkekaaMj14
import Derived.WalkKit
import Derived.ProofKit
import Derived.BigQuiet
import Derived.Deep.QuietTactic
import Derived.Lib.Hide
import Derived.RegionTactic
import Derived.Test.YtnbjodoajfkekaaMj21
import Derived.Test.YtnbjodoajfkekaaMj12
import Derived.Test.YtnbjodoajfkekaaMj1
import Derived.Test.YtnbjodoajfkekaaMj10
import Derived.OwnWalk
namespace Go.Proofs.Ytnbjodoajfkekaa
open Go.RowKit
set_option linter.unusedSimpArgs false
section
variable (pid ad n pr : Int) (a : Option Addr) (dn dc : Nat) (w : World)
set_option maxHeartbeats 1000000 in
set_option maxRecDepth 100000 in
theorem refright_1 (B : Bool) (hB : (decide (pid = 0) && (decide (ad = 0) && (decide (n = 0) && (decide (pr = 0) && decide (dn = 0))))) = B) : Calls Try.prog 18 #[.agg #[.int .i64 1, .int .i64 pid, .int .i64 ad, .int .i64 n, .int .i64 pr, .slice a dn dc]] w fun e w' => e = .returned (.bool B) ∧ Below w.heap.size w w' := by
  by_cases c0 : pid = 0
  · subst c0
    by_cases c1 : ad = 0
    · subst c1
      by_cases c2 : n = 0
      · subst c2
        by_cases c3 : pr = 0
        · subst c3
          by_cases c4 : dn = 0
          · subst c4
            obtain rfl : B = true := by rw [← hB]; simp
            clear hB
            go_enter Try.func18, Try.ntmps18
            go_wp2
            go_ret
            exact ⟨by first | rfl | (simp; done) | (simp; omega), (Below.refl _ _).alloc (Nat.le_refl _) _⟩
          · have k4 : decide ((0 : Int) < (dn : Int)) = true := by simp; omega
            obtain rfl : B = false := by rw [← hB]; simp [c4]
            clear hB
            go_enter Try.func18, Try.ntmps18
            go_wp2
            go_ret
            exact ⟨by first | rfl | (simp; done) | (simp; omega), (Below.refl _ _).alloc (Nat.le_refl _) _⟩
        · have k3 : (pr != 0) = true := by simpa using c3
          obtain rfl : B = false := by rw [← hB]; simp [c3]
          clear hB
          go_enter Try.func18, Try.ntmps18
          go_wp2
          go_ret
          exact ⟨by first | rfl | (simp; done) | (simp; omega), (Below.refl _ _).alloc (Nat.le_refl _) _⟩
      · have k2 : (n != 0) = true := by simpa using c2
        obtain rfl : B = false := by rw [← hB]; simp [c2]
        clear hB
        go_enter Try.func18, Try.ntmps18
        go_wp2
        go_ret
        exact ⟨by first | rfl | (simp; done) | (simp; omega), (Below.refl _ _).alloc (Nat.le_refl _) _⟩
    · have k1 : (ad != 0) = true := by simpa using c1
      obtain rfl : B = false := by rw [← hB]; simp [c1]
      clear hB
      go_enter Try.func18, Try.ntmps18
      go_wp2
      go_ret
      exact ⟨by first | rfl | (simp; done) | (simp; omega), (Below.refl _ _).alloc (Nat.le_refl _) _⟩
  · have k0 : (pid != 0) = true := by simpa using c0
    obtain rfl : B = false := by rw [← hB]; simp [c0]
    clear hB
    go_enter Try.func18, Try.ntmps18
    go_wp2
    go_ret
    exact ⟨by first | rfl | (simp; done) | (simp; omega), (Below.refl _ _).alloc (Nat.le_refl _) _⟩
set_option maxHeartbeats 1000000 in
set_option maxRecDepth 100000 in
theorem refright_9 (B : Bool) (hB : (decide (pid = 0) && (decide (ad = 0) && (decide (n = 0) && (decide (pr = 0) && decide (dn = 0))))) = B) : Calls Try.prog 18 #[.agg #[.int .i64 9, .int .i64 pid, .int .i64 ad, .int .i64 n, .int .i64 pr, .slice a dn dc]] w fun e w' => e = .returned (.bool B) ∧ Below w.heap.size w w' := by
  by_cases c0 : pid = 0
  · subst c0
    by_cases c1 : ad = 0
    · subst c1
      by_cases c2 : n = 0
      · subst c2
        by_cases c3 : pr = 0
        · subst c3
          by_cases c4 : dn = 0
          · subst c4
            obtain rfl : B = true := by rw [← hB]; simp
            clear hB
            go_enter Try.func18, Try.ntmps18
            go_wp2
            go_ret
            exact ⟨by first | rfl | (simp; done) | (simp; omega), (Below.refl _ _).alloc (Nat.le_refl _) _⟩
          · have k4 : decide ((0 : Int) < (dn : Int)) = true := by simp; omega
            obtain rfl : B = false := by rw [← hB]; simp [c4]
            clear hB
            go_enter Try.func18, Try.ntmps18
            go_wp2
            go_ret
            exact ⟨by first | rfl | (simp; done) | (simp; omega), (Below.refl _ _).alloc (Nat.le_refl _) _⟩
        · have k3 : (pr != 0) = true := by simpa using c3
          obtain rfl : B = false := by rw [← hB]; simp [c3]
          clear hB
          go_enter Try.func18, Try.ntmps18
          go_wp2
          go_ret
          exact ⟨by first | rfl | (simp; done) | (simp; omega), (Below.refl _ _).alloc (Nat.le_refl _) _⟩
      · have k2 : (n != 0) = true := by simpa using c2
        obtain rfl : B = false := by rw [← hB]; simp [c2]
        clear hB
        go_enter Try.func18, Try.ntmps18
        go_wp2
        go_ret
        exact ⟨by first | rfl | (simp; done) | (simp; omega), (Below.refl _ _).alloc (Nat.le_refl _) _⟩
    · have k1 : (ad != 0) = true := by simpa using c1
      obtain rfl : B = false := by rw [← hB]; simp [c1]
      clear hB
      go_enter Try.func18, Try.ntmps18
      go_wp2
      go_ret
      exact ⟨by first | rfl | (simp; done) | (simp; omega), (Below.refl _ _).alloc (Nat.le_refl _) _⟩
  · have k0 : (pid != 0) = true := by simpa using c0
    obtain rfl : B = false := by rw [← hB]; simp [c0]
    clear hB
    go_enter Try.func18, Try.ntmps18
    go_wp2
    go_ret
    exact ⟨by first | rfl | (simp; done) | (simp; omega), (Below.refl _ _).alloc (Nat.le_refl _) _⟩
set_option maxHeartbeats 1000000 in
set_option maxRecDepth 100000 in
theorem refright_2 (B : Bool) (hB : decide (dn = 0) = B) : Calls Try.prog 18 #[.agg #[.int .i64 2, .int .i64 pid, .int .i64 ad, .int .i64 n, .int .i64 pr, .slice a dn dc]] w fun e w' => e = .returned (.bool B) ∧ Below w.heap.size w w' := by
  by_cases c0 : dn = 0
  · subst c0
    obtain rfl : B = true := by rw [← hB]; simp
    clear hB
    go_enter Try.func18, Try.ntmps18
    go_wp2
    go_ret
    exact ⟨by first | rfl | (simp; done) | (simp; omega), (Below.refl _ _).alloc (Nat.le_refl _) _⟩
  · have k0 : decide ((0 : Int) < (dn : Int)) = true := by simp; omega
    obtain rfl : B = false := by rw [← hB]; simp [c0]
    clear hB
    go_enter Try.func18, Try.ntmps18
    go_wp2
    go_ret
    exact ⟨by first | rfl | (simp; done) | (simp; omega), (Below.refl _ _).alloc (Nat.le_refl _) _⟩
set_option maxHeartbeats 1000000 in
set_option maxRecDepth 100000 in
theorem refright_4 (B : Bool) (hB : decide (dn = 0) = B) : Calls Try.prog 18 #[.agg #[.int .i64 4, .int .i64 pid, .int .i64 ad, .int .i64 n, .int .i64 pr, .slice a dn dc]] w fun e w' => e = .returned (.bool B) ∧ Below w.heap.size w w' := by
  by_cases c0 : dn = 0
  · subst c0
    obtain rfl : B = true := by rw [← hB]; simp
    clear hB
    go_enter Try.func18, Try.ntmps18
    go_wp2
    go_ret
    exact ⟨by first | rfl | (simp; done) | (simp; omega), (Below.refl _ _).alloc (Nat.le_refl _) _⟩
  · have k0 : decide ((0 : Int) < (dn : Int)) = true := by simp; omega
    obtain rfl : B = false := by rw [← hB]; simp [c0]
    clear hB
    go_enter Try.func18, Try.ntmps18
    go_wp2
    go_ret
    exact ⟨by first | rfl | (simp; done) | (simp; omega), (Below.refl _ _).alloc (Nat.le_refl _) _⟩
set_option maxHeartbeats 1000000 in
set_option maxRecDepth 100000 in
theorem refright_3 (B : Bool) (hB : (decide (pr = 0) && decide (dn = 0)) = B) : Calls Try.prog 18 #[.agg #[.int .i64 3, .int .i64 pid, .int .i64 ad, .int .i64 n, .int .i64 pr, .slice a dn dc]] w fun e w' => e = .returned (.bool B) ∧ Below w.heap.size w w' := by
  by_cases c0 : pr = 0
  · subst c0
    by_cases c1 : dn = 0
    · subst c1
      obtain rfl : B = true := by rw [← hB]; simp
      clear hB
      go_enter Try.func18, Try.ntmps18
      go_wp2
      go_ret
      exact ⟨by first | rfl | (simp; done) | (simp; omega), (Below.refl _ _).alloc (Nat.le_refl _) _⟩
    · have k1 : decide ((0 : Int) < (dn : Int)) = true := by simp; omega
      obtain rfl : B = false := by rw [← hB]; simp [c1]
      clear hB
      go_enter Try.func18, Try.ntmps18
      go_wp2
      go_ret
      exact ⟨by first | rfl | (simp; done) | (simp; omega), (Below.refl _ _).alloc (Nat.le_refl _) _⟩
  · have k0 : (pr != 0) = true := by simpa using c0
    obtain rfl : B = false := by rw [← hB]; simp [c0]
    clear hB
    go_enter Try.func18, Try.ntmps18
    go_wp2
    go_ret
    exact ⟨by first | rfl | (simp; done) | (simp; omega), (Below.refl _ _).alloc (Nat.le_refl _) _⟩
set_option maxHeartbeats 1000000 in
set_option maxRecDepth 100000 in
theorem refright_5 (B : Bool) (hB : (decide (pr = 0) && decide (dn = 0)) = B) : Calls Try.prog 18 #[.agg #[.int .i64 5, .int .i64 pid, .int .i64 ad, .int .i64 n, .int .i64 pr, .slice a dn dc]] w fun e w' => e = .returned (.bool B) ∧ Below w.heap.size w w' := by
  by_cases c0 : pr = 0
  · subst c0
    by_cases c1 : dn = 0
    · subst c1
      obtain rfl : B = true := by rw [← hB]; simp
      clear hB
      go_enter Try.func18, Try.ntmps18
      go_wp2
      go_ret
      exact ⟨by first | rfl | (simp; done) | (simp; omega), (Below.refl _ _).alloc (Nat.le_refl _) _⟩
    · have k1 : decide ((0 : Int) < (dn : Int)) = true := by simp; omega
      obtain rfl : B = false := by rw [← hB]; simp [c1]
      clear hB
      go_enter Try.func18, Try.ntmps18
      go_wp2
      go_ret
      exact ⟨by first | rfl | (simp; done) | (simp; omega), (Below.refl _ _).alloc (Nat.le_refl _) _⟩
  · have k0 : (pr != 0) = true := by simpa using c0
    obtain rfl : B = false := by rw [← hB]; simp [c0]
    clear hB
    go_enter Try.func18, Try.ntmps18
    go_wp2
    go_ret
    exact ⟨by first | rfl | (simp; done) | (simp; omega), (Below.refl _ _).alloc (Nat.le_refl _) _⟩
set_option maxHeartbeats 1000000 in
set_option maxRecDepth 100000 in
theorem refright_6 (B : Bool) (hB : (decide (n = 0) && decide (pr = 0)) = B) : Calls Try.prog 18 #[.agg #[.int .i64 6, .int .i64 pid, .int .i64 ad, .int .i64 n, .int .i64 pr, .slice a dn dc]] w fun e w' => e = .returned (.bool B) ∧ Below w.heap.size w w' := by
  by_cases c0 : n = 0
  · subst c0
    by_cases c1 : pr = 0
    · subst c1
      obtain rfl : B = true := by rw [← hB]; simp
      clear hB
      go_enter Try.func18, Try.ntmps18
      go_wp2
      go_ret
      exact ⟨by first | rfl | (simp; done) | (simp; omega), (Below.refl _ _).alloc (Nat.le_refl _) _⟩
    · have k1 : (pr != 0) = true := by simpa using c1
      obtain rfl : B = false := by rw [← hB]; simp [c1]
      clear hB
      go_enter Try.func18, Try.ntmps18
      go_wp2
      go_ret
      exact ⟨by first | rfl | (simp; done) | (simp; omega), (Below.refl _ _).alloc (Nat.le_refl _) _⟩
  · have k0 : (n != 0) = true := by simpa using c0
    obtain rfl : B = false := by rw [← hB]; simp [c0]
    clear hB
    go_enter Try.func18, Try.ntmps18
    go_wp2
    go_ret
    exact ⟨by first | rfl | (simp; done) | (simp; omega), (Below.refl _ _).alloc (Nat.le_refl _) _⟩
set_option maxHeartbeats 1000000 in
set_option maxRecDepth 100000 in
theorem refright_7 (B : Bool) (hB : (decide (ad = 0) && (decide (n = 0) && (decide (pr = 0) && decide (dn = 0)))) = B) : Calls Try.prog 18 #[.agg #[.int .i64 7, .int .i64 pid, .int .i64 ad, .int .i64 n, .int .i64 pr, .slice a dn dc]] w fun e w' => e = .returned (.bool B) ∧ Below w.heap.size w w' := by
  by_cases c0 : ad = 0
  · subst c0
    by_cases c1 : n = 0
    · subst c1
      by_cases c2 : pr = 0
      · subst c2
        by_cases c3 : dn = 0
        · subst c3
          obtain rfl : B = true := by rw [← hB]; simp
          clear hB
          go_enter Try.func18, Try.ntmps18
          go_wp2
          go_ret
          exact ⟨by first | rfl | (simp; done) | (simp; omega), (Below.refl _ _).alloc (Nat.le_refl _) _⟩
        · have k3 : decide ((0 : Int) < (dn : Int)) = true := by simp; omega
          obtain rfl : B = false := by rw [← hB]; simp [c3]
          clear hB
          go_enter Try.func18, Try.ntmps18
          go_wp2
          go_ret
          exact ⟨by first | rfl | (simp; done) | (simp; omega), (Below.refl _ _).alloc (Nat.le_refl _) _⟩
      · have k2 : (pr != 0) = true := by simpa using c2
        obtain rfl : B = false := by rw [← hB]; simp [c2]
        clear hB
        go_enter Try.func18, Try.ntmps18
        go_wp2
        go_ret
        exact ⟨by first | rfl | (simp; done) | (simp; omega), (Below.refl _ _).alloc (Nat.le_refl _) _⟩
    · have k1 : (n != 0) = true := by simpa using c1
      obtain rfl : B = false := by rw [← hB]; simp [c1]
      clear hB
      go_enter Try.func18, Try.ntmps18
      go_wp2
      go_ret
      exact ⟨by first | rfl | (simp; done) | (simp; omega), (Below.refl _ _).alloc (Nat.le_refl _) _⟩
  · have k0 : (ad != 0) = true := by simpa using c0
    obtain rfl : B = false := by rw [← hB]; simp [c0]
    clear hB
    go_enter Try.func18, Try.ntmps18
    go_wp2
    go_ret
    exact ⟨by first | rfl | (simp; done) | (simp; omega), (Below.refl _ _).alloc (Nat.le_refl _) _⟩
set_option maxHeartbeats 1000000 in
set_option maxRecDepth 100000 in
theorem refright_8 (B : Bool) (hB : (decide (ad = 0) && (decide (n = 0) && (decide (pr = 0) && decide (dn = 0)))) = B) : Calls Try.prog 18 #[.agg #[.int .i64 8, .int .i64 pid, .int .i64 ad, .int .i64 n, .int .i64 pr, .slice a dn dc]] w fun e w' => e = .returned (.bool B) ∧ Below w.heap.size w w' := by
  by_cases c0 : ad = 0
  · subst c0
    by_cases c1 : n = 0
    · subst c1
      by_cases c2 : pr = 0
      · subst c2
        by_cases c3 : dn = 0
        · subst c3
          obtain rfl : B = true := by rw [← hB]; simp
          clear hB
          go_enter Try.func18, Try.ntmps18
          go_wp2
          go_ret
          exact ⟨by first | rfl | (simp; done) | (simp; omega), (Below.refl _ _).alloc (Nat.le_refl _) _⟩
        · have k3 : decide ((0 : Int) < (dn : Int)) = true := by simp; omega
          obtain rfl : B = false := by rw [← hB]; simp [c3]
          clear hB
          go_enter Try.func18, Try.ntmps18
          go_wp2
          go_ret
          exact ⟨by first | rfl | (simp; done) | (simp; omega), (Below.refl _ _).alloc (Nat.le_refl _) _⟩
      · have k2 : (pr != 0) = true := by simpa using c2
        obtain rfl : B = false := by rw [← hB]; simp [c2]
        clear hB
        go_enter Try.func18, Try.ntmps18
        go_wp2
        go_ret
        exact ⟨by first | rfl | (simp; done) | (simp; omega), (Below.refl _ _).alloc (Nat.le_refl _) _⟩
    · have k1 : (n != 0) = true := by simpa using c1
      obtain rfl : B = false := by rw [← hB]; simp [c1]
      clear hB
      go_enter Try.func18, Try.ntmps18
      go_wp2
      go_ret
      exact ⟨by first | rfl | (simp; done) | (simp; omega), (Below.refl _ _).alloc (Nat.le_refl _) _⟩
  · have k0 : (ad != 0) = true := by simpa using c0
    obtain rfl : B = false := by rw [← hB]; simp [c0]
    clear hB
    go_enter Try.func18, Try.ntmps18
    go_wp2
    go_ret
    exact ⟨by first | rfl | (simp; done) | (simp; omega), (Below.refl _ _).alloc (Nat.le_refl _) _⟩
set_option maxRecDepth 100000 in
theorem refright_no (kd : Int) (h : ∀ k : Int, 1 ≤ k → k ≤ 9 → kd ≠ k) : Calls Try.prog 18 #[.agg #[.int .i64 kd, .int .i64 pid, .int .i64 ad, .int .i64 n, .int .i64 pr, .slice a dn dc]] w fun e w' => e = .returned (.bool false) ∧ Below w.heap.size w w' := by
  have z1 : decide (kd = 1) = false := decide_eq_false (h 1 (by omega) (by omega))
  have y1 : (kd == 1) = false := by simpa using h 1 (by omega) (by omega)
  have z2 : decide (kd = 2) = false := decide_eq_false (h 2 (by omega) (by omega))
  have y2 : (kd == 2) = false := by simpa using h 2 (by omega) (by omega)
  have z3 : decide (kd = 3) = false := decide_eq_false (h 3 (by omega) (by omega))
  have y3 : (kd == 3) = false := by simpa using h 3 (by omega) (by omega)
  have z4 : decide (kd = 4) = false := decide_eq_false (h 4 (by omega) (by omega))
  have y4 : (kd == 4) = false := by simpa using h 4 (by omega) (by omega)
  have z5 : decide (kd = 5) = false := decide_eq_false (h 5 (by omega) (by omega))
  have y5 : (kd == 5) = false := by simpa using h 5 (by omega) (by omega)
  have z6 : decide (kd = 6) = false := decide_eq_false (h 6 (by omega) (by omega))
  have y6 : (kd == 6) = false := by simpa using h 6 (by omega) (by omega)
  have z7 : decide (kd = 7) = false := decide_eq_false (h 7 (by omega) (by omega))
  have y7 : (kd == 7) = false := by simpa using h 7 (by omega) (by omega)
  have z8 : decide (kd = 8) = false := decide_eq_false (h 8 (by omega) (by omega))
  have y8 : (kd == 8) = false := by simpa using h 8 (by omega) (by omega)
  have z9 : decide (kd = 9) = false := decide_eq_false (h 9 (by omega) (by omega))
  have y9 : (kd == 9) = false := by simpa using h 9 (by omega) (by omega)
  clear h
  go_enter Try.func18, Try.ntmps18
  go_wp2
  go_ret
  exact ⟨rfl, (Below.refl _ _).alloc (Nat.le_refl _) _⟩
set_option maxRecDepth 100000 in
theorem oprefright_any (o : Opn) (hd : o.data.length = dn) : Calls Try.prog 18 #[.agg #[.int .i64 o.kind, .int .i64 o.pid, .int .i64 o.at_, .int .i64 o.n, .int .i64 o.prot, .slice a dn dc]] w fun e w' => e = .returned (.bool (rightOp o)) ∧ Below w.heap.size w w' := by
  subst hd
  obtain ⟨kd, pid, ad, n, pr, d⟩ := o
  unfold rightOp
  dsimp only
  by_cases h : ∃ k : Int, (1 ≤ k ∧ k ≤ 9) ∧ kd = k
  · obtain ⟨k, hk, rfl⟩ := h
    have : kd = 1 ∨ kd = 2 ∨ kd = 3 ∨ kd = 4 ∨ kd = 5 ∨ kd = 6 ∨ kd = 7 ∨ kd = 8 ∨ kd = 9 := by omega
    rcases this with rfl | rfl | rfl | rfl | rfl | rfl | rfl | rfl | rfl
    · exact refright_1 pid ad n pr a _ dc w _ (by simp [Bool.decide_and])
    · exact refright_2 pid ad n pr a _ dc w _ (by simp)
    · exact refright_3 pid ad n pr a _ dc w _ (by simp [Bool.decide_and])
    · exact refright_4 pid ad n pr a _ dc w _ (by simp)
    · exact refright_5 pid ad n pr a _ dc w _ (by simp [Bool.decide_and])
    · exact refright_6 pid ad n pr a _ dc w _ (by simp [Bool.decide_and])
    · exact refright_7 pid ad n pr a _ dc w _ (by simp [Bool.decide_and])
    · exact refright_8 pid ad n pr a _ dc w _ (by simp [Bool.decide_and])
    · exact refright_9 pid ad n pr a _ dc w _ (by simp [Bool.decide_and])
  · have hne : ∀ k : Int, 1 ≤ k → k ≤ 9 → kd ≠ k := fun k h1 h2 e => h ⟨k, ⟨h1, h2⟩, e⟩
    have z : (if kd = 1 ∨ kd = 9 then decide (pid = 0 ∧ ad = 0 ∧ n = 0 ∧ pr = 0 ∧ d.length = 0) else if kd = 2 ∨ kd = 4 then decide (d.length = 0) else if kd = 3 ∨ kd = 5 then decide (pr = 0 ∧ d.length = 0) else if kd = 6 then decide (n = 0 ∧ pr = 0) else if kd = 7 ∨ kd = 8 then decide (ad = 0 ∧ n = 0 ∧ pr = 0 ∧ d.length = 0) else false) = false := by
      have h1 := hne 1; have h2 := hne 2; have h3 := hne 3; have h4 := hne 4; have h5 := hne 5; have h6 := hne 6; have h7 := hne 7; have h8 := hne 8; have h9 := hne 9
      rw [if_neg (by omega), if_neg (by omega), if_neg (by omega), if_neg (by omega), if_neg (by omega)]
    rw [z]
    exact refright_no pid ad n pr a _ dc w kd hne
end
end Go.Proofs.Ytnbjodoajfkekaa

namespace Go.Proofs.Ytnbjodoajfkekaa
open Go.RowKit
def forkM (st : Mc) (k0 : Nat) (pid : Int) : Mc := { st with v := st.v ||| qbit k0, rs := upd st.rs k0 (st.rs pid), ms := upd st.ms k0 (st.ms pid) }
theorem fork_pids {st : Mc} (h : McOk st) {k0 : Nat} (pid : Int) (hk : k0 < st.pr) (hn : st.has (k0 : Int) = false) : (forkM st k0 pid).pids.Perm ((k0 : Int) :: st.pids) := by
  have hpr := h.prI
  have hcp := h.cf.procs
  have hm : ∀ p, p ∈ (forkM st k0 pid).pids ↔ hasB st.c.procs (st.v ||| qbit k0) p = true := fun p => by
    show p ∈ pidsK (st.v ||| qbit k0) st.pr ↔ _
    rw [pidsK_mem]
    unfold hasB
    rw [hpr]
    simp
  refine (List.perm_ext_iff_of_nodup McOk.nd ?_).2 (fun p => ?_)
  · rw [List.nodup_cons]
    refine ⟨fun hm2 => ?_, McOk.nd⟩
    rw [h.mem, hn] at hm2
    cases hm2
  · rw [hm, has_put (by omega) hcp.2, List.mem_cons, h.mem]
    unfold Mc.has
    cases hasB st.c.procs st.v p <;> simp
theorem fork_weight {st : Mc} (h : McOk st) {k0 : Nat} {pid : Int} (hk : k0 < st.pr) (hn : st.has (k0 : Int) = false) : weightM (forkM st k0 pid) = weightM st + 1 + ((st.rs pid).length : Int) + ((st.ms pid).length : Int) := by
  unfold weightM
  rw [sum_perm ((fork_pids h pid hk hn).map _), List.map_cons, List.sum_cons]
  have e1 : oneW (forkM st k0 pid) (k0 : Int) = 1 + ((st.rs pid).length : Int) + ((st.ms pid).length : Int) := by
    unfold oneW forkM
    simp only [upd_same]
  have e2 : st.pids.map (oneW (forkM st k0 pid)) = st.pids.map (oneW st) := by
    refine List.map_congr_left (fun p hp => ?_)
    have hne : p ≠ (k0 : Int) := fun e => by rw [h.mem, e, hn] at hp; cases hp
    unfold oneW forkM
    simp only [upd_other _ _ hne]
  rw [e1, e2]
  omega
/-- What an operation of another process leaves. -/
theorem step_apart {st : Mc} {o : Opn} (h1 : o.kind ≠ 1) (h7 : o.kind ≠ 7) {p : Int} (hp : p ≠ o.pid) : (stepM st o).rs p = st.rs p ∧ (stepM st o).ms p = st.ms p ∧ (stepM st o).c = st.c := by
  unfold stepM
  by_cases e0 : checkE st o ≠ 0
  · rw [if_pos e0]; exact ⟨rfl, rfl, rfl⟩
  · rw [if_neg e0, if_neg h1]
    by_cases e2 : o.kind = 2 ∨ o.kind = 3 ∨ o.kind = 4
    · rw [if_pos e2]; exact ⟨upd_other _ _ hp, upd_other _ _ hp, rfl⟩
    · rw [if_neg e2]
      by_cases e6 : o.kind = 6
      · rw [if_pos e6]; exact ⟨rfl, upd_other _ _ hp, rfl⟩
      · rw [if_neg e6, if_neg h7]
        by_cases e8 : o.kind = 8
        · rw [if_pos e8]; exact ⟨upd_other _ _ hp, upd_other _ _ hp, rfl⟩
        · rw [if_neg e8]; exact ⟨rfl, rfl, rfl⟩
/-- What a fork asked of any process is. -/
theorem fork_cases {st : Mc} (h : McOk st) (pid : Int) : (checkE st ⟨7, pid, 0, 0, 0, []⟩ ≠ 0 ∧ stepM st ⟨7, pid, 0, 0, 0, []⟩ = st ∧ (ansM st ⟨7, pid, 0, 0, 0, []⟩).err ≠ 0) ∨
    ∃ k0 : Nat, k0 < st.pr ∧ st.has (k0 : Int) = false ∧ st.has pid = true ∧ stepM st ⟨7, pid, 0, 0, 0, []⟩ = forkM st k0 pid ∧ ansM st ⟨7, pid, 0, 0, 0, []⟩ = ⟨0, (k0 : Int), [], []⟩ := by
  by_cases hE : checkE st ⟨7, pid, 0, 0, 0, []⟩ = 0
  · obtain ⟨_, hc⟩ := check_zero hE
    dsimp only at hc
    rcases hc with hc | ⟨hc, _⟩ | ⟨hh, hc⟩
    · omega
    · omega
    · rcases hc with ⟨hc, _⟩ | ⟨hc, _⟩ | ⟨_, hf⟩ | hc | ⟨hc, _⟩
      · omega
      · omega
      · have hlt := full_first h hf
        have hfree := firstF_at st.v st.pr hlt
        have hT : tkV st.v st.pr = st.v ||| qbit (firstF st.v st.pr) ∧ st.first = (firstF st.v st.pr : Nat) := by
          unfold Mc.first tkV tkN
          rw [if_pos hlt, if_pos hlt]
          exact ⟨rfl, rfl⟩
        refine .inr ⟨firstF st.v st.pr, hlt, ?_, hh, ?_, ?_⟩
        · unfold Mc.has hasB
          simp [hfree]
        · unfold stepM
          rw [if_neg (by simpa using hE), if_neg (by simp), if_neg (by simp), if_neg (by simp), if_pos rfl, hT.1, hT.2]
          rfl
        · unfold ansM
          rw [if_neg (by simpa using hE), if_pos (by simp), hT.2]
      · omega
      · omega
  · refine .inl ⟨hE, by unfold stepM; rw [if_pos hE], ?_⟩
    unfold ansM
    rw [if_pos hE]
    exact hE
end Go.Proofs.Ytnbjodoajfkekaa

namespace Go.Proofs.Ytnbjodoajfkekaa
open Go.RowKit
def rowInfoR : Prop := (Try.prog.info? 25).map (fun i => (i.zero, i.size, i.bytes)) = some (some (.slice none 0 0), 1, 24)
theorem rowIR : rowInfoR := by unfold rowInfoR; kernel_rfl
set_option maxRecDepth 100000 in
theorem rowTR : Try.prog.underlying 47 = some (.slice 25) := Try.underlying47
theorem ownsRow_at {w w' : World} {e : TypeId} {size n : Nat} {v : Value} {xs : List Value} (h : w.ownsRow 0 e size v n xs) (hb : ∀ g, v.ownBlock = some g → w'.heap[g]? = w.heap[g]?) : w'.ownsRow 0 e size v n xs := by
  refine ⟨h.1, ?_⟩
  rcases h.2 with ⟨h1, h2⟩ | ⟨g, cap, cur, hv, h0, hh, h3⟩
  · exact .inl ⟨h1, h2⟩
  · exact .inr ⟨g, cap, cur, hv, h0, by rw [hb g (by rw [hv]; rfl)]; exact hh, h3⟩
/-- A row of slices, none of whose blocks is in Q. -/
structure RowsIn (w : World) (Q : Nat → Prop) (v : Value) (vs : List Value) (ls : List (List Int)) : Prop where
  own : w.ownsRow 0 25 1 v vs.length vs
  len : vs.length = ls.length
  nq : ∀ g, v.ownBlock = some g → ¬ Q g
  each : ∀ (i : Nat) (l : List Int), ls[i]? = some l → ∃ a n c, vs[i]? = some (.slice a n c) ∧ RdAt .u8 w a n c l ∧ ∀ x, a = some x → 0 < n → ¬ Q x.block ∧ some x.block ≠ v.ownBlock
theorem RowsIn.nil (w : World) (Q : Nat → Prop) : RowsIn w Q (.slice none 0 0) [] [] := ⟨⟨rfl, .inl ⟨rfl, rfl⟩⟩, rfl, fun g h => (by simp [Value.ownBlock] at h), fun i l h => by simp at h⟩
theorem RowsIn.shape {w : World} {Q : Nat → Prop} {v : Value} {vs : List Value} {ls : List (List Int)} (h : RowsIn w Q v vs ls) : ∃ a c, v = .slice a vs.length c := by
  rcases h.own.2 with ⟨hv, hn⟩ | ⟨g, cap, cur, hv, _⟩
  · exact ⟨none, 0, by rw [hv, hn]⟩
  · exact ⟨_, _, hv⟩
theorem rd_keepR {kd : IntKind} {w w' : World} {a : Option Addr} {n c : Nat} {l : List Int} (h : RdAt kd w a n c l) (hb : ∀ x, a = some x → 0 < n → w'.heap[x.block]? = w.heap[x.block]?) : RdAt kd w' a n c l :=
  ⟨h.len, h.cap, h.max, fun i hi => by
    obtain ⟨b, o, e, hc⟩ := h.cell i hi
    exact ⟨b, o, e, by rw [← hc]; exact World.cell?_of_block (a := ⟨b, o + i, none⟩) (hb ⟨b, o, none⟩ e (by omega))⟩, h.wf, h.void⟩
theorem rd_ltR {kd : IntKind} {w : World} {a : Option Addr} {n c : Nat} {l : List Int} (h : RdAt kd w a n c l) : ∀ x, a = some x → 0 < n → x.block < w.heap.size := fun x hx hn => by
  obtain ⟨b, o, e, hc⟩ := h.cell 0 hn
  rw [hx] at e
  injection e with e
  subst e
  exact block_lt_of_cell hc
theorem RowsIn.tn {w w' : World} {Q Q0 : Nat → Prop} {v : Value} {vs : List Value} {ls : List (List Int)} (h : RowsIn w Q v vs ls) (t : Tn Q0 w w') (hq : ∀ k, Q0 k → Q k) : RowsIn w' Q v vs ls := by
  have hlt := fun g hg => (h.own.lt g hg).2
  refine ⟨ownsRow_at h.own (fun g hg => t.block g (hlt g hg) (fun e => h.nq g hg (hq _ e))), h.len, h.nq, fun i l hl => ?_⟩
  obtain ⟨a, n, c, h1, h2, h3⟩ := h.each i l hl
  exact ⟨a, n, c, h1, rd_keepR h2 (fun x hx hn => t.block x.block (rd_ltR h2 x hx hn) (fun e => (h3 x hx hn).1 (hq _ e))), h3⟩
theorem RowsIn.below {w w' : World} {Q : Nat → Prop} {v : Value} {vs : List Value} {ls : List (List Int)} (h : RowsIn w Q v vs ls) (b : Below w.heap.size w w') : RowsIn w' Q v vs ls := h.tn (Tn.of (Q := fun _ => False) b) (fun _ h => h.elim)
theorem RowsIn.cell {w : World} {Q : Nat → Prop} {v : Value} {vs : List Value} {ls : List (List Int)} (h : RowsIn w Q v vs ls) (i : Nat) (l : List Int) (hi : ls[i]? = some l) : ∃ g cap a n c, v = .slice (some ⟨g, 0, none⟩) vs.length cap ∧ vs.length ≤ cap ∧ i < vs.length ∧ w.cell? ⟨g, i, none⟩ = some (.slice a n c) ∧ RdAt .u8 w a n c l := by
  have hlt : i < vs.length := by rw [h.len]; exact (List.getElem?_eq_some_iff.1 hi).1
  rcases h.own.2 with ⟨hv, hn⟩ | ⟨g, cap, cur, hv, h0, hh, h1, h2, h3, h4⟩
  · omega
  · obtain ⟨a', n', c', e1, e2, e3⟩ := h.each i l hi
    subst hv
    refine ⟨g, cap, a', n', c', rfl, h1, hlt, ?_, e2⟩
    rw [← e1]
    exact h.own.cellAt i (by omega)
theorem RowsIn.push {w w' : World} {Q : Nat → Prop} {v v' : Value} {vs : List Value} {ls : List (List Int)} (h : RowsIn w Q v vs ls) {a : Option Addr} {n c : Nat} {l : List Int} (hr : RdAt .u8 w a n c l) (hq : ∀ x, a = some x → 0 < n → ¬ Q x.block ∧ some x.block ≠ v.ownBlock)
    (hQ : ∀ k, Q k → k < w.heap.size) (ho : w'.ownsRow 0 25 1 v' (vs.length + 1) (vs ++ [.slice a n c])) (hg : w.grownBy w' v.ownBlock) (hb : v'.ownBlock = v.ownBlock ∨ ∀ g, v'.ownBlock = some g → w.heap.size ≤ g) : RowsIn w' Q v' (vs ++ [.slice a n c]) (ls ++ [l]) := by
  have hne : ∀ k, k < w.heap.size → some k ≠ v.ownBlock → some k ≠ v'.ownBlock := fun k h1 h2 h3 => by
    rcases hb with h4 | h4
    · exact h2 (h3.trans h4)
    · have := h4 k h3.symm; omega
  have hgb : ∀ (a : Option Addr) (n c : Nat) (l : List Int), RdAt .u8 w a n c l → (∀ x, a = some x → 0 < n → ¬ Q x.block ∧ some x.block ≠ v.ownBlock) → RdAt .u8 w' a n c l ∧ ∀ x, a = some x → 0 < n → ¬ Q x.block ∧ some x.block ≠ v'.ownBlock := fun a n c l h1 h2 =>
    ⟨rd_keepR h1 (fun x hx hn => hg.block x.block (rd_ltR h1 x hx hn) (h2 x hx hn).2), fun x hx hn => ⟨(h2 x hx hn).1, hne _ (rd_ltR h1 x hx hn) (h2 x hx hn).2⟩⟩
  refine ⟨by simpa using ho, by simp [h.len], fun g hg' => ?_, fun i l' hl => ?_⟩
  · rcases hb with h4 | h4
    · exact h.nq g (by rw [← h4]; exact hg')
    · intro h5
      have := h4 g hg'
      have := hQ g h5
      omega
  · by_cases e : i < ls.length
    · rw [List.getElem?_append_left e] at hl
      obtain ⟨a', n', c', h1, h2, h3⟩ := h.each i l' hl
      obtain ⟨h4, h5⟩ := hgb a' n' c' l' h2 h3
      exact ⟨a', n', c', by rw [List.getElem?_append_left (by rw [h.len]; exact e)]; exact h1, h4, h5⟩
    · have hi : i = ls.length := by
        have := (List.getElem?_eq_some_iff.1 hl).1
        simp at this
        omega
      subst hi
      simp at hl
      subst hl
      obtain ⟨h4, h5⟩ := hgb a n c l hr hq
      exact ⟨a, n, c, by rw [← h.len]; simp, h4, h5⟩
section
variable {ops : Array Oper} {rest : List Oper} {o : Oper} {act : Act} {E : Exit → Act → World → Prop}
set_option maxRecDepth 100000 in
/-- append(rows, b): one more. -/
theorem rowsin_one (hg : o.guard = none) (s x : Operand) (ho : o.op = .call { callee := .builtin .append, args := #[s, x], argTypes := #[47, 47] }) (w : World) (Q : Nat → Prop) (v : Value) (vs : List Value) (ls : List (List Int))
    (hs : act.eval s = v) (h : RowsIn w Q v vs ls) (a : Option Addr) (n c : Nat) (l : List Int) (hr : RdAt .u8 w a n c l) (hq : ∀ x, a = some x → 0 < n → ¬ Q x.block ∧ some x.block ≠ v.ownBlock) (hQ : ∀ k, Q k → k < w.heap.size) (hx : act.eval x = .slice (some ⟨w.heap.size, 0, none⟩) 1 1) (hlen : vs.length ≤ 1000000)
    (hK : ∀ v' w', RowsIn w' Q v' (vs ++ [.slice a n c]) (ls ++ [l]) → w.grownBy w' v.ownBlock → (v'.ownBlock = v.ownBlock ∨ ∀ g, v'.ownBlock = some g → w.heap.size ≤ g) → wpList Try.prog ops E rest (act.put o.dst v') w') :
    wpList Try.prog ops E (o :: rest) act (w.alloc (.cells #[.slice a n c] 25)) := by
  obtain ⟨i, hi, hz0, hz1, hz2⟩ := info_parts rowIR
  have hba : Below w.heap.size w (w.alloc (.cells #[.slice a n c] 25)) := (Below.refl _ _).alloc (Nat.le_refl _) _
  refine wpList_append_own_at _ hg s x _ ho 0 25 i (.slice none 0 0) 1 24 rowTR hi hz0 hz1 hz2 rfl (by decide) v vs.length vs hs (h.own.alloc _) ⟨w.heap.size, 0, none⟩ 1 1 [.slice a n c] hx rfl ?_ ?_ ?_ ?_ ?_ ?_
  · intro j u hj
    cases j with
    | zero =>
      simp at hj
      subst hj
      simp [Addr.add]
    | succ j => simp at hj
  · intro u hu
    simp at hu
    subst hu
    rfl
  · unfold maxLen; omega
  · omega
  · omega
  · intro v' w' h1 h2 _ h4
    have hsz : (w.alloc (.cells #[.slice a n c] 25)).heap.size = w.heap.size + 1 := by simp
    have h5 : w.grownBy w' v.ownBlock := ⟨h2.os.trans hba.os, h2.tape.trans hba.tape, h2.output.trans hba.output, Nat.le_trans hba.size h2.size, fun k hk hne => (h2.block k (Nat.lt_of_lt_of_le hk hba.size) hne).trans (hba.block k hk)⟩
    have h7 : v'.ownBlock = v.ownBlock ∨ ∀ g, v'.ownBlock = some g → w.heap.size ≤ g := h4.imp id fun h6 g hg' => by
      rw [h6] at hg'
      injection hg' with hg'
      omega
    exact hK v' w' (h.push hr hq hQ h1 h5 h7) h5 h7
end
end Go.Proofs.Ytnbjodoajfkekaa
