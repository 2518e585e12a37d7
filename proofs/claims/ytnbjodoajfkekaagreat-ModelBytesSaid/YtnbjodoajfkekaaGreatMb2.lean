/- Contracts of ints.ReadVar and of the reference's. What a reader of records tells: plain laws. No program in sight. codec's Reader: what lies in it; the contracts of refuse, int, count, End, NewReader. codec's Reader: how what is tried ends; int so. codec's try: its contracts; Int, Between, Bytes, List, End, NewReader. codec's Reader: the contracts of count and of the closures that are tried. codec's try: Between, Bytes, List. -/
import Derived.Test.YtnbjodoajfkekaaGreatMj15
import Derived.Test.YtnbjodoajfkekaaGreatMb1
import Derived.Recover
import Derived.RegionTactic
import Derived.Maps.AppendAt
import Derived.WalkLawsBesides
namespace Go.Proofs.YtnbjodoajfkekaaGreat
open Go.RowKit

/-- How many of the first bytes (at most ten) go on. -/
def leadF (l : List Int) (n : Nat) : Nat → Nat → Nat
  | 0, k => k
  | f + 1, k => if k < n ∧ 128 ≤ nth l k then leadF l n f (k + 1) else k
def lead (l : List Int) (n : Nat) : Nat := leadF l n 10 0
def valK (l : List Int) : Nat → Int
  | 0 => 0
  | k + 1 => valK l k + nth l k % 128 * 2 ^ (7 * k)
def valFrom (l : List Int) (i : Nat) : Nat → Int
  | 0 => 0
  | n + 1 => nth l i % 128 + 128 * valFrom l (i + 1) n
def rvForm (l : List Int) (n : Nat) : Bool := decide (lead l n = 10 ∨ (lead l n ≠ n ∧ ((0 < lead l n ∧ nth l (lead l n) = 0) ∨ (lead l n = 9 ∧ 1 < nth l 9))))
def rvE (l : List Int) (n : Nat) : Int := if rvForm l n then 22 else if lead l n = n then 21 else 0
def rvV (l : List Int) (n : Nat) : Int := if rvE l n = 0 then valK l (lead l n + 1) else 0
def rvN (l : List Int) (n : Nat) : Int := if rvE l n = 0 then lead l n + 1 else 0

theorem lead_go (l : List Int) (n : Nat) : ∀ k, k ≤ 10 → (∀ j, j < k → j < n ∧ 128 ≤ nth l j) → lead l n = leadF l n (10 - k) k
  | 0, _, _ => rfl
  | k + 1, hk, h => by
    rw [lead_go l n k (by omega) (fun j hj => h j (by omega)), show 10 - k = (10 - (k + 1)) + 1 by omega, leadF, if_pos (h k (by omega))]
theorem lead_ten {l : List Int} {n : Nat} (h : ∀ j, j < 10 → j < n ∧ 128 ≤ nth l j) : lead l n = 10 := by rw [lead_go l n 10 (by omega) h]; rfl
theorem lead_at {l : List Int} {n k : Nat} (hk : k < 10) (h : ∀ j, j < k → j < n ∧ 128 ≤ nth l j) (hn : ¬ (k < n ∧ 128 ≤ nth l k)) : lead l n = k := by
  rw [lead_go l n k (by omega) h, show 10 - k = (9 - k) + 1 by omega, leadF, if_neg hn]
theorem rv_ten {l : List Int} {n : Nat} (h : lead l n = 10) : rvV l n = 0 ∧ rvN l n = 0 ∧ rvE l n = 22 := by
  have hf : rvForm l n = true := by unfold rvForm; simp [h]
  have he : rvE l n = 22 := by unfold rvE; simp [hf]
  refine ⟨?_, ?_, he⟩
  · unfold rvV; rw [if_neg (by omega)]
  · unfold rvN; rw [if_neg (by omega)]
theorem rv_short {l : List Int} {n : Nat} (h : lead l n = n) (hn : n < 10) : rvV l n = 0 ∧ rvN l n = 0 ∧ rvE l n = 21 := by
  have hf : rvForm l n = false := by unfold rvForm; simp [h]; omega
  have he : rvE l n = 21 := by unfold rvE; simp [hf, h]
  refine ⟨?_, ?_, he⟩
  · unfold rvV; rw [if_neg (by omega)]
  · unfold rvN; rw [if_neg (by omega)]
theorem rv_form {l : List Int} {n k : Nat} (h : lead l n = k) (hn : k < n) (hb : (0 < k ∧ nth l k = 0) ∨ (k = 9 ∧ 1 < nth l k)) : rvV l n = 0 ∧ rvN l n = 0 ∧ rvE l n = 22 := by
  have hf : rvForm l n = true := by
    unfold rvForm; rw [h]
    rcases hb with ⟨h1, h2⟩ | ⟨h1, h2⟩
    · exact decide_eq_true (Or.inr ⟨by omega, Or.inl ⟨h1, h2⟩⟩)
    · subst h1; exact decide_eq_true (Or.inr ⟨by omega, Or.inr ⟨rfl, h2⟩⟩)
  have he : rvE l n = 22 := by unfold rvE; simp [hf]
  refine ⟨?_, ?_, he⟩
  · unfold rvV; rw [if_neg (by omega)]
  · unfold rvN; rw [if_neg (by omega)]
theorem rv_ok {l : List Int} {n k : Nat} (h : lead l n = k) (hn : k < n) (hk : k < 10) (h1 : ¬ (0 < k ∧ nth l k = 0)) (h2 : ¬ (k = 9 ∧ 1 < nth l k)) : rvV l n = valK l (k + 1) ∧ rvN l n = k + 1 ∧ rvE l n = 0 := by
  have hf : rvForm l n = false := by
    unfold rvForm; rw [h]
    refine decide_eq_false ?_
    rintro (h3 | ⟨_, h3 | ⟨h3, h4⟩⟩)
    · omega
    · exact h1 h3
    · subst h3; exact h2 ⟨rfl, h4⟩
  have he : rvE l n = 0 := by unfold rvE; rw [h, hf]; simp; omega
  refine ⟨?_, ?_, he⟩
  · unfold rvV; rw [if_pos he, h]
  · unfold rvN; rw [if_pos he, h]
theorem valK_bd (l : List Int) : ∀ k, 0 ≤ valK l k ∧ valK l k < 2 ^ (7 * k)
  | 0 => by simp [valK]
  | k + 1 => by
    have ih := valK_bd l k
    have e : (2 : Int) ^ (7 * (k + 1)) = 2 ^ (7 * k) * 128 := by rw [Nat.mul_add, Int.pow_add]; rfl
    have hp1 : (1 : Int) ≤ 2 ^ (7 * k) := by exact_mod_cast Nat.one_le_two_pow
    have h0 : 0 ≤ nth l k % 128 * 2 ^ (7 * k) := Int.mul_nonneg (by omega) (by omega)
    have h1 : nth l k % 128 * 2 ^ (7 * k) ≤ 127 * 2 ^ (7 * k) := Int.mul_le_mul_of_nonneg_right (by omega) (by omega)
    unfold valK; rw [e]; omega
theorem valFrom_snoc (l : List Int) : ∀ (n i : Nat), valFrom l i (n + 1) = valFrom l i n + nth l (i + n) % 128 * 2 ^ (7 * n)
  | 0, i => by simp [valFrom]
  | n + 1, i => by
    have ih := valFrom_snoc l n (i + 1)
    have e : (2 : Int) ^ (7 * (n + 1)) = 128 * 2 ^ (7 * n) := by rw [Nat.mul_add, Int.pow_add, Int.mul_comm]; rfl
    rw [valFrom, ih, valFrom, e, show i + 1 + n = i + (n + 1) by omega, Int.mul_add, Int.add_assoc, Int.mul_left_comm]
theorem valFrom_zero (l : List Int) : ∀ n, valFrom l 0 n = valK l n
  | 0 => rfl
  | n + 1 => by rw [valFrom_snoc, valFrom_zero l n, valK, Nat.zero_add]
theorem valFrom_bd (l : List Int) : ∀ (n i : Nat), 0 ≤ valFrom l i n ∧ valFrom l i n < 2 ^ (7 * n)
  | 0, i => by simp [valFrom]
  | n + 1, i => by
    have ih := valFrom_bd l n (i + 1)
    have e : (2 : Int) ^ (7 * (n + 1)) = 128 * 2 ^ (7 * n) := by rw [Nat.mul_add, Int.pow_add, Int.mul_comm]; rfl
    unfold valFrom; rw [e]; omega
theorem valFrom_top (l : List Int) : ∀ (n i : Nat), nth l (i + n) % 128 ≤ 1 → valFrom l i (n + 1) < 2 ^ (7 * n + 1)
  | 0, i, h => by simp [valFrom] at *; omega
  | n + 1, i, h => by
    have ih := valFrom_top l n (i + 1) (by rw [show i + 1 + n = i + (n + 1) by omega]; exact h)
    have e : (2 : Int) ^ (7 * (n + 1) + 1) = 128 * 2 ^ (7 * n + 1) := by rw [show 7 * (n + 1) + 1 = 7 * n + 1 + 7 by omega, Int.pow_add, Int.mul_comm]; rfl
    rw [valFrom, e]; omega
theorem u8_and_127 (x : Int) (h1 : 0 ≤ x) (h2 : x ≤ 255) : bits .and .u8 x 127 = x % 128 := by
  obtain ⟨a, rfl⟩ := Int.eq_ofNat_of_zero_le h1
  rw [u8_and _ 127 h1 (by omega) (by omega) (by omega), Int.toNat_natCast, show (127 : Int).toNat = 2 ^ 7 - 1 from rfl, Nat.and_two_pow_sub_one_eq_mod]
  omega
theorem u8_and_128 (x : Int) (h1 : 0 ≤ x) (h2 : x ≤ 255) : bits .and .u8 x 128 = if 128 ≤ x then 128 else 0 := by
  obtain ⟨a, rfl⟩ := Int.eq_ofNat_of_zero_le h1
  rw [u8_and _ 128 h1 (by omega) (by omega) (by omega), Int.toNat_natCast, show (128 : Int).toNat = 128 from rfl]
  have : ∀ y : Fin 256, (y.val &&& 128) = if 128 ≤ y.val then 128 else 0 := by decide +kernel
  have := this ⟨a, by omega⟩
  simp only at this
  rw [this]
  split <;> split <;> omega
theorem val_step (l : List Int) (k : Nat) (hk : k ≤ 9) (h9 : k = 9 → nth l k ≤ 1) (h0 : 0 ≤ nth l k) :
    bits BinOp.or IntKind.u64 (valK l k) (IntKind.u64.wrap (nth l k % 128 * 2 ^ (7 * k))) = valK l (k + 1) := by
  have hf := valK_bd l k
  have hp1 : (1 : Int) ≤ 2 ^ (7 * k) := by exact_mod_cast Nat.one_le_two_pow
  have h1 : 0 ≤ nth l k % 128 * 2 ^ (7 * k) := Int.mul_nonneg (by omega) (by omega)
  have h2 : nth l k % 128 * 2 ^ (7 * k) ≤ 9223372036854775808 := by
    by_cases h : k = 9
    · subst h; have := h9 rfl; omega
    · have hp := pow_le_of (show 7 * k ≤ 56 by omega)
      have : nth l k % 128 * 2 ^ (7 * k) ≤ 127 * 2 ^ (7 * k) := Int.mul_le_mul_of_nonneg_right (by omega) (by omega)
      omega
  have hp := pow_le_of (show 7 * k ≤ 63 by omega)
  have e : bits .or .u64 (valK l k) (nth l k % 128 * 2 ^ (7 * k)) = bits .or .u64 (nth l k % 128 * 2 ^ (7 * k)) (valK l k) := by
    unfold bits; simp only; rw [BitVec.or_comm]
  rw [IntWalk.u64_in _ (by omega), e, u64_join _ _ (7 * k) h1 (by omega) hf.1 (by omega) (by simp) hf.2, valK]
  omega

set_option maxRecDepth 100000 in
set_option maxHeartbeats 400000 in
theorem readvar_any (a : Option Addr) (n c : Nat) (l : List Int) (w : World) (h : RdAt .u8 w a n c l) :
    Calls Tryz.prog 118 #[.slice a n c] w fun e w' => e = .returned (.tuple #[.int .u64 (rvV l n), .int .i64 (rvN l n), .int .i64 (rvE l n)]) ∧ w = w' := by
  have hmax := h.max
  have hcap := h.cap
  unfold maxLen at hmax
  go_enter Tryz.func118, Tryz.ntmps118
  go_wp2
  go_loop [5, 10] (fun x i => ∃ k : Nat, k ≤ n ∧ k ≤ 9 ∧ i = .int .i64 k ∧ x = .int .u64 (valK l k) ∧ ∀ j, j < k → j < n ∧ 128 ≤ nth l j) (fun _ i => n - (intOf i).toNat)
  case atStart => exact ⟨0, by omega, by omega, rfl, rfl, fun j hj => by omega⟩
  case round =>
    obtain ⟨k, hk, hk9, rfl, rfl, hall⟩ := hrel
    have HALL := Lib.hid hall
    clear hall
    by_cases hp : k < n
    · obtain ⟨b, o, rfl, hc⟩ := h.cell k hp
      have hb := h.byte k hp
      have hb1 := hb.1
      have hb2 := hb.2
      have h127 := u8_and_127 _ hb1 hb2
      clear hb
      by_cases hgo : 128 ≤ nth l k
      · have h128 : bits .and .u8 (nth l k) 128 = 128 := by rw [u8_and_128 _ hb1 hb2, if_pos hgo]
        by_cases h9 : k = 9
        · subst h9
          have hr := Lib.hid (rv_ten (lead_ten (l := l) (n := n) (fun j hj => by by_cases e : j = 9; (subst e; exact ⟨hp, hgo⟩); exact HALL.out j (by omega))))
          go_wp2
          go_ret3
          rw [hr.out.1, hr.out.2.1, hr.out.2.2]
          exact ⟨rfl, rfl⟩
        · have hs := Lib.hid (val_step l k hk9 (fun e => absurd e h9) hb1)
          have k9 : ((k : Int) == 9) = false := by simp; omega
          have k10 : ((k : Int) == 10) = false := by simp; omega
          go_wp2
          go_round
          case rel => exact ⟨k + 1, by omega, by omega, by go_num, by rw [hs.out], fun j hj => by by_cases e : j = k; (subst e; exact ⟨hp, hgo⟩); exact HALL.out j (by omega)⟩
          case measure => simp [intOf] <;> omega
      · have h128 : bits .and .u8 (nth l k) 128 = 0 := by rw [u8_and_128 _ hb1 hb2, if_neg hgo]
        have hl : lead l n = k := lead_at (by omega) HALL.out (by omega)
        have HL := Lib.hid hl
        clear hl
        have k10 : ((k : Int) == 10) = false := by simp; omega
        by_cases hz : 0 < k ∧ nth l k = 0
        · have hr := Lib.hid (rv_form HL.out hp (Or.inl hz))
          obtain ⟨hz1, hz2⟩ := hz
          have hz3 : (nth l k == 0) = true := by simp [hz2]
          have hz4 : nth l k ≤ 0 := by omega
          clear hz2
          go_wp2
          all_goals
            go_ret3
            rw [hr.out.1, hr.out.2.1, hr.out.2.2]
            exact ⟨rfl, rfl⟩
        · by_cases h9 : k = 9 ∧ 1 < nth l k
          · have hr := Lib.hid (rv_form HL.out hp (Or.inr h9))
            obtain ⟨h91, h92⟩ := h9
            have k9 : ((k : Int) == 9) = true := by simp; omega
            have k9' : (k : Int) ≤ 9 := by omega
            have k9'' : 9 ≤ (k : Int) := by omega
            clear h91
            go_wp2
            go_ret3
            rw [hr.out.1, hr.out.2.1, hr.out.2.2]
            exact ⟨rfl, rfl⟩
          · have hr := Lib.hid (rv_ok HL.out hp (by omega) hz h9)
            have hs := Lib.hid (val_step l k hk9 (fun e => by omega) hb1)
            by_cases hk0 : k = 0
            · have hk1 : (k : Int) ≤ 0 := by omega
              have k9 : ((k : Int) == 9) = false := by simp; omega
              clear hk0 hz h9
              by_cases hz3 : (nth l k == 0) = true
              all_goals
                try simp only [Bool.not_eq_true] at hz3
                go_wp2
                go_ret3
                rw [hr.out.1, hr.out.2.1, hr.out.2.2, ← hs.out]
                exact ⟨rfl, rfl⟩
            · have hz3 : (nth l k == 0) = false := by simp; omega
              by_cases k9 : k = 9
              · have h91 : nth l k ≤ 1 := by omega
                have k9a : ((k : Int) == 9) = true := by simp; omega
                clear hz h9 k9
                go_wp2
                go_ret3
                rw [hr.out.1, hr.out.2.1, hr.out.2.2, ← hs.out]
                exact ⟨rfl, rfl⟩
              · have k9' : ((k : Int) == 9) = false := by simp; omega
                clear hz h9
                go_wp2
                go_ret3
                rw [hr.out.1, hr.out.2.1, hr.out.2.2, ← hs.out]
                exact ⟨rfl, rfl⟩
    · obtain rfl : k = n := by omega
      have hr := Lib.hid (rv_short (l := l) (n := k) (lead_at (by omega) HALL.out (by omega)) (by omega))
      go_wp2
      go_ret3
      rw [hr.out.1, hr.out.2.1, hr.out.2.2]
      exact ⟨rfl, rfl⟩
end Go.Proofs.YtnbjodoajfkekaaGreat

namespace Go.Proofs.YtnbjodoajfkekaaGreat
open Go.RowKit
/-- What reading something comes to: the error (0: none), what is told, what is left. -/
structure Rd (α : Type) where
  e : Int
  v : α
  l : List Int
/-- One number. -/
def rdInt (l : List Int) : Rd Int :=
  if rvE l l.length ≠ 0 then ⟨rvE l l.length, 0, l⟩ else ⟨0, zagI (rvV l l.length), l.drop (rvN l l.length).toNat⟩
def rdBetween (lo hi : Int) (l : List Int) : Rd Int :=
  if (rdInt l).e ≠ 0 then ⟨(rdInt l).e, 0, (rdInt l).l⟩ else if (rdInt l).v < lo ∨ hi < (rdInt l).v then ⟨22, 0, (rdInt l).l⟩ else rdInt l
def rdBytes (most : Int) (l : List Int) : Rd (List Int) :=
  if (rdBetween 0 most l).e ≠ 0 then ⟨(rdBetween 0 most l).e, [], (rdBetween 0 most l).l⟩
  else if ((rdBetween 0 most l).l.length : Int) < (rdBetween 0 most l).v then ⟨21, [], (rdBetween 0 most l).l⟩
  else ⟨0, (rdBetween 0 most l).l.take (rdBetween 0 most l).v.toNat, (rdBetween 0 most l).l.drop (rdBetween 0 most l).v.toNat⟩
/-- So many numbers. -/
def rdInts : Nat → List Int → Rd (List Int)
  | 0, l => ⟨0, [], l⟩
  | k + 1, l => if (rdInt l).e ≠ 0 then ⟨(rdInt l).e, [], (rdInt l).l⟩ else if (rdInts k (rdInt l).l).e ≠ 0 then ⟨(rdInts k (rdInt l).l).e, [], (rdInts k (rdInt l).l).l⟩ else ⟨0, (rdInt l).v :: (rdInts k (rdInt l).l).v, (rdInts k (rdInt l).l).l⟩
def rdList (most : Int) (l : List Int) : Rd (List Int) :=
  if (rdBetween 0 most l).e ≠ 0 then ⟨(rdBetween 0 most l).e, [], (rdBetween 0 most l).l⟩ else rdInts (rdBetween 0 most l).v.toNat (rdBetween 0 most l).l
/-- Behind an error nothing is told. -/
def rdFrom {α : Type} (e0 : Int) (z : α) (l : List Int) (r : Rd α) : Rd α := if e0 ≠ 0 then ⟨e0, z, l⟩ else r
theorem rdFrom_ok {α : Type} (z : α) (l : List Int) (r : Rd α) : rdFrom 0 z l r = r := if_neg (by simp)
theorem rdFrom_bad {α : Type} {e0 : Int} (z : α) (l : List Int) (r : Rd α) (h : e0 ≠ 0) : rdFrom e0 z l r = ⟨e0, z, l⟩ := if_pos h
theorem rdInt_bad {l : List Int} (h : rvE l l.length ≠ 0) : rdInt l = ⟨rvE l l.length, 0, l⟩ := by unfold rdInt; rw [if_pos h]
theorem rdInt_ok {l : List Int} (h : rvE l l.length = 0) : rdInt l = ⟨0, zagI (rvV l l.length), l.drop (rvN l l.length).toNat⟩ := by unfold rdInt; rw [if_neg (by simpa using h)]
theorem rvE_vals (l : List Int) (n : Nat) : rvE l n = 0 ∨ rvE l n = 21 ∨ rvE l n = 22 := by
  unfold rvE
  split
  · exact .inr (.inr rfl)
  · split
    · exact .inr (.inl rfl)
    · exact .inl rfl
theorem rdN_pos {x : List Int} {n : Nat} (h : rvE x n = 0) : 1 ≤ rvN x n := by unfold rvN; rw [if_pos h]; omega
theorem rdN_le {x : List Int} (h : rvE x x.length = 0) : rvN x x.length ≤ x.length := by
  have key : lead x x.length < x.length := by
    unfold rvE at h
    split at h
    · omega
    · split at h
      · omega
      · rename_i h1 h2
        have : ∀ (f k : Nat), k ≤ x.length → leadF x x.length f k ≤ x.length ∨ leadF x x.length f k = f + k := by
          intro f
          induction f with
          | zero => intro k hk; exact .inl (by simpa [leadF] using hk)
          | succ f ih =>
            intro k hk
            rw [leadF]
            split
            · rename_i hc
              rcases ih (k + 1) (by omega) with h | h
              · exact .inl h
              · exact .inr (by omega)
            · exact .inl hk
        rcases this 10 0 (by omega) with h | h
        · have : lead x x.length ≤ x.length := h
          omega
        · have h10 : lead x x.length = 10 := by unfold lead; omega
          exfalso
          apply h1
          unfold rvForm
          simp [h10]
  unfold rvN
  rw [if_pos h]
  omega
theorem rdV_bd (x : List Int) (n : Nat) : 0 ≤ rvV x n := by
  unfold rvV
  split
  · exact (valK_bd x _).1
  · omega
theorem rdInt_len {l : List Int} (h : (rdInt l).e = 0) : (rdInt l).l.length < l.length := by
  by_cases h0 : rvE l l.length = 0
  · rw [rdInt_ok h0]
    have h1 := rdN_pos h0
    have h2 := rdN_le h0
    simp only [List.length_drop]
    omega
  · rw [rdInt_bad h0] at h
    exact absurd h h0
theorem rdInt_sub (l : List Int) : ∀ y ∈ (rdInt l).l, y ∈ l := by
  by_cases h0 : rvE l l.length = 0
  · rw [rdInt_ok h0]
    exact fun y hy => List.mem_of_mem_drop hy
  · rw [rdInt_bad h0]
    exact fun y hy => hy
theorem rdInt_z {l : List Int} (h : (rdInt l).e ≠ 0) : (rdInt l).v = 0 := by
  by_cases h0 : rvE l l.length = 0
  · rw [rdInt_ok h0] at h
    exact absurd rfl h
  · rw [rdInt_bad h0]
theorem rdBetween_z {lo hi : Int} {l : List Int} (h : (rdBetween lo hi l).e ≠ 0) : (rdBetween lo hi l).v = 0 := by
  unfold rdBetween at *
  split at h
  · rename_i h1; rw [if_pos h1]
  · rename_i h1
    rw [if_neg h1]
    split at h
    · rename_i h2; rw [if_pos h2]
    · exact absurd h h1
theorem rdBytes_z {most : Int} {l : List Int} (h : (rdBytes most l).e ≠ 0) : (rdBytes most l).v = [] := by
  unfold rdBytes at *
  split at h
  · rename_i h1; rw [if_pos h1]
  · rename_i h1
    rw [if_neg h1]
    split at h
    · rename_i h2; rw [if_pos h2]
    · exact absurd rfl h
theorem rdInts_z : ∀ (k : Nat) (l : List Int), (rdInts k l).e ≠ 0 → (rdInts k l).v = []
  | 0, l, h => absurd rfl h
  | k + 1, l, h => by
    rw [rdInts] at h ⊢
    split
    · rfl
    · split
      · rfl
      · rename_i h1 h2
        rw [if_neg h1, if_neg h2] at h
        exact absurd rfl h
theorem rdList_z {most : Int} {l : List Int} (h : (rdList most l).e ≠ 0) : (rdList most l).v = [] := by
  unfold rdList at *
  split at h
  · rename_i h1; rw [if_pos h1]
  · rename_i h1
    rw [if_neg h1]
    exact rdInts_z _ _ h
theorem rdBetween_ok {lo hi : Int} {l : List Int} (h : (rdBetween lo hi l).e = 0) : rdBetween lo hi l = rdInt l ∧ (rdInt l).e = 0 ∧ lo ≤ (rdInt l).v ∧ (rdInt l).v ≤ hi := by
  unfold rdBetween at *
  split at h
  · rename_i h1; exact absurd h h1
  · rename_i h1
    rw [if_neg h1]
    split at h
    · simp at h
    · rename_i h2
      rw [if_neg h2]
      exact ⟨rfl, h, by omega, by omega⟩
theorem rd_leadF_top (x : List Int) (n : Nat) : ∀ f k, leadF x n f k ≤ f + k
  | 0, k => by unfold leadF; omega
  | f + 1, k => by
    have := rd_leadF_top x n f (k + 1)
    unfold leadF
    split <;> omega
theorem rdV_lt (x : List Int) (n : Nat) (h0 : 0 ≤ nth x 9) : rvV x n ≤ 18446744073709551615 := by
  unfold rvV
  split
  · rename_i he
    have hl : lead x n ≤ 10 := rd_leadF_top x n 10 0
    unfold rvE at he
    split at he
    · omega
    · rename_i hf
      have hf2 : ¬ (lead x n = 10 ∨ (lead x n ≠ n ∧ ((0 < lead x n ∧ nth x (lead x n) = 0) ∨ (lead x n = 9 ∧ 1 < nth x 9)))) := fun h => hf (by unfold rvForm; exact decide_eq_true h)
      have hn : lead x n ≠ n := by
        intro h
        rw [if_pos h] at he
        omega
      by_cases h9 : lead x n = 9
      · have h1 : nth x 9 ≤ 1 := by omega
        have := valFrom_top x 9 0 (by rw [Nat.zero_add]; omega)
        rw [valFrom_zero] at this
        rw [h9]
        have e : (2 : Int) ^ (7 * 9 + 1) = 18446744073709551616 := by decide
        omega
      · have h8 : lead x n ≤ 8 := by omega
        have h2 := (valK_bd x (lead x n + 1)).2
        have h3 : (2 : Int) ^ (7 * (lead x n + 1)) ≤ 2 ^ 63 := by
          have : (2 : Nat) ^ (7 * (lead x n + 1)) ≤ 2 ^ 63 := Nat.pow_le_pow_right (by omega) (by omega)
          exact_mod_cast this
        have e : (2 : Int) ^ 63 = 9223372036854775808 := by decide
        omega
  · omega
theorem rd_nth_pos (x : List Int) (h : ∀ y ∈ x, (Lit.int .u8 y).wf = true) (i : Nat) : 0 ≤ nth x i := by
  by_cases hi : i < x.length
  · rw [nth_eq hi]
    exact (wf_u8_bd (h _ (List.getElem_mem hi))).1
  · rw [nth_out (by omega)]; omega
end Go.Proofs.YtnbjodoajfkekaaGreat

namespace Go.Proofs.YtnbjodoajfkekaaGreat
open Go.RowKit
def pkr {α : Type} (c k : Nat) (A B : α) : α := if c = k then A else B
theorem rd_pkr {kd : IntKind} {w : World} {b o n c : Nat} {l : List Int} (h : RdAt kd w (some ⟨b, o, none⟩) n c l) (k : Nat) (hk : k ≤ n) : RdAt kd w (pkr c k (some ⟨b, o, none⟩) (some ⟨b, o + k, none⟩)) (n - k) (c - k) (l.drop k) := by
  have hcap := h.cap
  have hmax := h.max
  have hl := h.len
  unfold pkr
  by_cases hc : c = k
  · rw [if_pos hc]
    rw [show n - k = 0 by omega, show c - k = 0 by omega, List.drop_of_length_le (by omega)]
    exact ⟨rfl, Nat.le_refl _, by unfold maxLen; omega, fun i hi => by omega, by simp, fun h => by cases h⟩
  · rw [if_neg hc]
    refine ⟨by rw [List.length_drop]; omega, by omega, by omega, fun i hi => ?_, fun y hy => h.wf y (List.mem_of_mem_drop hy), fun h => by cases h⟩
    obtain ⟨b', o', e, hc⟩ := h.cell (k + i) (by omega)
    injection e with e
    injection e with e1 e2
    subst e1 e2
    refine ⟨b, o + k, rfl, ?_⟩
    rw [Nat.add_assoc, hc]
    unfold nth
    simp [List.getD]
theorem pkr_block {c k b o o' : Nat} {q : Addr} (h : pkr c k (some (⟨b, o, none⟩ : Addr)) (some ⟨b, o', none⟩) = some q) : q.block = b := by
  unfold pkr at h
  split at h <;> (injection h with h; rw [← h])
theorem pkr_spot {c k b o o' : Nat} {q : Addr} (h : pkr c k (some (⟨b, o, none⟩ : Addr)) (some ⟨b, o', none⟩) = some q) : q.spot = none := by
  unfold pkr at h
  split at h <;> (injection h with h; rw [← h])
/-- A slice's row that is not written stays what it reads as. -/
theorem RdAt.far {k : IntKind} {w w' : World} {h : Nat} {a : Option Addr} {n c : Nat} {l : List Int} (r : RdAt k w a n c l) (hg : w.grownBy w' (some h)) (hne : ∀ q, a = some q → 0 < n → q.block ≠ h) : RdAt k w' a n c l :=
  ⟨r.len, r.cap, r.max, fun i hi => by
    obtain ⟨b, o, e, hc⟩ := r.cell i hi
    exact ⟨b, o, e, hg.cell hc (fun e' => hne _ e (by omega) (by injection e'))⟩, r.wf, r.void⟩
theorem rd_takeR {kd : IntKind} {w : World} {a : Option Addr} {n c : Nat} {l : List Int} (h : RdAt kd w a n c l) (k c' : Nat) (hk : k ≤ n) (hc' : k ≤ c') (hcm : c' ≤ c) (hv : a = none → c' = 0) : RdAt kd w a k c' (l.take k) :=
  ⟨by rw [List.length_take, h.len]; omega, hc', Nat.le_trans hcm h.max, fun i hi => by
    obtain ⟨b, o, e, hc⟩ := h.cell i (by omega)
    refine ⟨b, o, e, ?_⟩
    rw [hc]; congr 1
    have hl := h.len
    rw [nth_eq (by omega), nth_eq (by rw [List.length_take]; omega), List.getElem_take], fun x hx => h.wf x (List.mem_of_mem_take hx), hv⟩
structure CRdr (B : Nat) (w : World) (h : Nat) (a : Option Addr) (n c : Nat) (l : List Int) (e : Int) : Prop where
  row : w.heap[h]? = some (.cells #[.slice a n c, .int .i64 e] 162 (0, 0))
  rd : RdAt .u8 w a n c l
  lo : ∀ q, a = some q → 0 < n → q.block < h
  sp : ∀ q, a = some q → q.spot = none
  hi : ∀ q, a = some q → 0 < n → B ≤ q.block
/-- A reader in block h, that has these bytes left, and this error. -/
def RIn (B : Nat) (w : World) (h : Nat) (l : List Int) (e : Int) : Prop := ∃ a n c, CRdr B w h a n c l e
variable {B : Nat}
theorem CRdr.ne {w : World} {h : Nat} {a : Option Addr} {n c : Nat} {l : List Int} {e : Int} (r : CRdr B w h a n c l e) : ∀ q, a = some q → 0 < n → q.block ≠ h := fun q h1 h2 => Nat.ne_of_lt (r.lo q h1 h2)
theorem CRdr.lt {w : World} {h : Nat} {a : Option Addr} {n c : Nat} {l : List Int} {e : Int} (r : CRdr B w h a n c l e) : h < w.heap.size := (Array.getElem?_eq_some_iff.1 r.row).1
theorem RIn.lt {w : World} {h : Nat} {l : List Int} {e : Int} (r : RIn B w h l e) : h < w.heap.size := by obtain ⟨a, n, c, r⟩ := r; exact r.lt
theorem CRdr.cells {w : World} {h : Nat} {a : Option Addr} {n c : Nat} {l : List Int} {e : Int} (r : CRdr B w h a n c l e) :
    w.cell? ⟨h, 0, none⟩ = some (.slice a n c) ∧ w.cell? ⟨h, 1, none⟩ = some (.int .i64 e) ∧ ∀ i, w.frozen? ⟨h, i, none⟩ = false := by
  have := r.row
  refine ⟨?_, ?_, fun i => frozen_of_row w h i _ _ this⟩ <;> simp [World.cell?, this]
theorem CRdr.below {w w' : World} {h : Nat} {a : Option Addr} {n c : Nat} {l : List Int} {e : Int} (r : CRdr B w h a n c l e) (hb : Below w.heap.size w w') : CRdr B w' h a n c l e :=
  ⟨by rw [hb.block h r.lt]; exact r.row, r.rd.below hb, r.lo, r.sp, r.hi⟩
theorem RIn.below {w w' : World} {h : Nat} {l : List Int} {e : Int} (r : RIn B w h l e) (hb : Below w.heap.size w w') : RIn B w' h l e := by
  obtain ⟨a, n, c, r⟩ := r
  exact ⟨a, n, c, r.below hb⟩
theorem rcell_grown (w : World) (h i : Nat) (x : Value) : w.grownBy (w.setCell ⟨h, i, none⟩ x) (some h) :=
  ⟨rfl, rfl, rfl, by simp, fun k _ hk => heap_setCell_other w ⟨h, i, none⟩ k x (fun e => hk (by simp [e]))⟩
theorem CRdr.setB {w : World} {h : Nat} {a a' : Option Addr} {n c n' c' : Nat} {l l' : List Int} {e : Int} (r : CRdr B w h a n c l e) (rd : RdAt .u8 w a' n' c' l') (lo : ∀ q, a' = some q → 0 < n' → q.block < h) (sp : ∀ q, a' = some q → q.spot = none) (hi : ∀ q, a' = some q → 0 < n' → B ≤ q.block) :
    CRdr B (w.setCell ⟨h, 0, none⟩ (.slice a' n' c')) h a' n' c' l' e :=
  ⟨heap_setCell_same _ _ _ _ _ _ r.row, rd.far (rcell_grown _ _ _ _) (fun q h1 h2 => Nat.ne_of_lt (lo q h1 h2)), lo, sp, hi⟩
theorem CRdr.setE {w : World} {h : Nat} {a : Option Addr} {n c : Nat} {l : List Int} {e : Int} (r : CRdr B w h a n c l e) (e' : Int) : CRdr B (w.setCell ⟨h, 1, none⟩ (.int .i64 e')) h a n c l e' :=
  ⟨heap_setCell_same _ _ _ _ _ _ r.row, r.rd.far (rcell_grown _ _ _ _) r.ne, r.lo, r.sp, r.hi⟩
theorem CRdr.grown {w w' : World} {h : Nat} {row : Option Nat} {a : Option Addr} {n c : Nat} {l : List Int} {e : Int} (r : CRdr B w h a n c l e) (hg : w.grownBy w' row) (hk : ∀ k, row = some k → h < k) : CRdr B w' h a n c l e := by
  refine ⟨by rw [hg.block h r.lt (fun e => by have := hk h e.symm; omega)]; exact r.row, ⟨r.rd.len, r.rd.cap, r.rd.max, fun i hi => ?_, r.rd.wf, r.rd.void⟩, r.lo, r.sp, r.hi⟩
  obtain ⟨b, o, e, hc⟩ := r.rd.cell i hi
  have h1 : b < h := r.lo _ e (by omega)
  exact ⟨b, o, e, hg.cell hc (fun e' => by have := hk b e'.symm; omega)⟩
theorem RIn.grown {w w' : World} {h : Nat} {row : Option Nat} {l : List Int} {e : Int} (r : RIn B w h l e) (hg : w.grownBy w' row) (hk : ∀ k, row = some k → h < k) : RIn B w' h l e := by
  obtain ⟨a, n, c, r⟩ := r
  exact ⟨a, n, c, r.grown hg hk⟩
/-- A write below the reader's base leaves it. -/
theorem RIn.apart {w w' : World} {h k : Nat} {l : List Int} {e : Int} (r : RIn B w h l e) (hg : w.grownBy w' (some k)) (hk : k < B) (hB : B ≤ h) : RIn B w' h l e := by
  obtain ⟨a, n, c, r⟩ := r
  exact ⟨a, n, c, ⟨by rw [hg.block h r.lt (fun e => by injection e with e; omega)]; exact r.row, r.rd.far hg (fun q h1 h2 e => by have := r.hi q h1 h2; omega), r.lo, r.sp, r.hi⟩⟩
/-- How refuse ends where it refuses. -/
def PE (e : Int) : Ending := .panicked [{ v := .iface 29 (.int .i64 e), recovered := false }]
set_option maxRecDepth 100000 in
theorem refuse_no (e : Int) (w : World) : Calls Tryz.prog 104 #[.bool false, .int .i64 e] w fun x w' => x = .returned (.tuple #[]) ∧ w = w' := by
  go_enter Tryz.func104, Tryz.ntmps104
  go_wp2
  go_end0
  exact ⟨rfl, rfl⟩
set_option maxRecDepth 100000 in
theorem refuse_yes (e : Int) (w : World) : Calls Tryz.prog 104 #[.bool true, .int .i64 e] w fun x w' => x = PE e ∧ w = w' := by
  go_enter Tryz.func104, Tryz.ntmps104
  go_wp2
  exact ⟨rfl, rfl, rfl⟩
set_option maxRecDepth 100000 in
set_option maxHeartbeats 1000000 in
theorem int_bad (h : Nat) (l : List Int) (w : World) (r : RIn B w h l 0) (he : rvE l l.length ≠ 0) :
    Calls Tryz.prog 100 #[.pointer (some ⟨h, 0, none⟩)] w fun e w' => e = PE (rvE l l.length) ∧ w = w' := by
  obtain ⟨a, n, c, r⟩ := r
  obtain ⟨c0, c1, cf⟩ := r.cells
  have R := Lib.hid r
  have HL := Lib.hid r.rd.len
  obtain ⟨E, hE⟩ : ∃ E, rvE l n = E := ⟨_, rfl⟩
  rw [HL.out, hE] at he ⊢
  have HE := Lib.hid hE
  have hne : (E != 0) = true := by simpa using he
  clear r hE he
  go_enter Tryz.func100, Tryz.ntmps100
  go_wp2_with (go_at_call 118; refine (readvar_any _ _ _ l _ R.out.rd).mono ?_; rintro e w1 ⟨hee, rfl⟩; rw [HE.out] at hee; subst hee)
  refine (refuse_yes E _).mono ?_
  rintro e w1 ⟨rfl, rfl⟩
  exact ⟨rfl, rfl, rfl⟩
set_option maxRecDepth 100000 in
set_option maxHeartbeats 1000000 in
theorem int_ok (h : Nat) (l : List Int) (w : World) (r : RIn B w h l 0) (he : rvE l l.length = 0) :
    Calls Tryz.prog 100 #[.pointer (some ⟨h, 0, none⟩)] w fun e w' => e = .returned (.int .i64 (zagI (rvV l l.length))) ∧ RIn B w' h (l.drop (rvN l l.length).toNat) 0 ∧ w.grownBy w' (some h) := by
  obtain ⟨a, n, c, r⟩ := r
  obtain ⟨c0, c1, cf⟩ := r.cells
  have hp := rdN_pos he
  have hle := rdN_le he
  have hcap := r.rd.cap
  have hmax := r.rd.max
  unfold maxLen at hmax
  have hV1 := rdV_bd l l.length
  have hV2 := rdV_lt l l.length (rd_nth_pos l r.rd.wf 9)
  have R := Lib.hid r
  have HL := Lib.hid r.rd.len
  rw [HL.out] at he hp hle hV1 hV2 ⊢
  obtain ⟨b, ad, rfl, _⟩ := r.rd.cell 0 (by omega)
  have hbh : b < h := r.lo _ rfl (by omega)
  obtain ⟨m, hm⟩ := Int.eq_ofNat_of_zero_le (show 0 ≤ rvN l n by omega)
  rw [hm] at hp hle ⊢
  obtain ⟨V, hV⟩ : ∃ V, rvV l n = V := ⟨_, rfl⟩
  rw [hV] at hV1 hV2 ⊢
  have HE := Lib.hid he
  have HM := Lib.hid hm
  have HV := Lib.hid hV
  have hif : ∀ (A B : Option Addr), (if c = m then A else B) = pkr c m A B := fun _ _ => rfl
  have R2 := Lib.hid (rd_pkr r.rd m (by omega))
  clear r he hm hV
  go_enter Tryz.func100, Tryz.ntmps100
  go_wp2_with (go_at_call 118; refine (readvar_any _ _ _ l _ R.out.rd).mono ?_; rintro e w1 ⟨hee, rfl⟩; rw [HE.out, HM.out, HV.out] at hee; subst hee)
  refine (refuse_no 0 _).mono ?_
  rintro e w1 ⟨rfl, rfl⟩
  go_wp2_with (go_at_call 119; refine (zag_any V _ hV1 hV2).mono ?_; rintro e w1 ⟨rfl, rfl⟩)
  go_ret
  refine ⟨rfl, ⟨_, _, _, R.out.setB R2.out (fun q hq _ => by rw [pkr_block hq]; exact hbh) (fun q hq => pkr_spot hq) (fun q hq _ => by rw [pkr_block hq]; exact R.out.hi _ rfl (by omega))⟩, rcell_grown _ _ _ _⟩
end Go.Proofs.YtnbjodoajfkekaaGreat

namespace Go.Proofs.YtnbjodoajfkekaaGreat
open Go.RowKit
theorem grown_trans {a b c : World} {k : Option Nat} (h : a.grownBy b k) (g : b.grownBy c k) : a.grownBy c k := World.grownBy.trans h g
theorem below_grown {w w' : World} {h : Nat} (hb : Below w.heap.size w w') (_ : h < w.heap.size) : w.grownBy w' (some h) := ⟨hb.os, hb.tape, hb.output, hb.size, fun k hk _ => hb.block k hk⟩
theorem below_row {w w' : World} {k : Nat} {o : Obj} (ho : w.heap[k]? = some o) (hb : Below w.heap.size w w') : w'.heap[k]? = some o := by
  rw [hb.block k (Array.getElem?_eq_some_iff.1 ho).1]; exact ho
theorem grown_more {w w2 w3 : World} {h : Nat} {row : Option Nat} (hG : w.grownBy w2 (some h)) (hg : w2.grownBy w3 row) (hr : ∀ g, row = some g → w.heap.size ≤ g) : w.grownBy w3 (some h) :=
  ⟨hg.os.trans hG.os, hg.tape.trans hG.tape, hg.output.trans hG.output, Nat.le_trans hG.size hg.size, fun b hb hne => by
    rw [hg.block b (Nat.lt_of_lt_of_le hb hG.size) (fun e => by have := hr b e.symm; omega), hG.block b hb hne]⟩
theorem grown_drew {w w' : World} {r : Option Nat} (h : w.grownBy w' r) : w.grownBy w'.drew r := ⟨h.os, h.tape, h.output, h.size, h.block⟩
theorem crdr_drew {B : Nat} {w : World} {h : Nat} {a : Option Addr} {n c : Nat} {l : List Int} {e : Int} (r : CRdr B w h a n c l e) : CRdr B w.drew h a n c l e :=
  ⟨r.row, ⟨r.rd.len, r.rd.cap, r.rd.max, r.rd.cell, r.rd.wf, r.rd.void⟩, r.lo, r.sp, r.hi⟩
def isI (_ : Nat) (x : Int) (v : Value) (_ : World) : Prop := v = .int .i64 x
def isB (base : Nat) (l : List Int) (v : Value) (w : World) : Prop := Owns .u8 5 w base v l
def isL (base : Nat) (l : List Int) (v : Value) (w : World) : Prop := Owns .i64 3 w base v l
/-- How something that is tried ends: told, or with a panic. -/
def RPost (B : Nat) {α : Type} (val : Nat → α → Value → World → Prop) (h : Nat) (r : Rd α) (w : World) (e : Ending) (w' : World) : Prop :=
  w.grownBy w' (some h) ∧ RIn B w' h r.l 0 ∧ ((r.e = 0 ∧ ∃ v, e = .returned v ∧ val w.heap.size r.v v w') ∨ (r.e ≠ 0 ∧ e = PE r.e))
variable {B : Nat}
set_option maxRecDepth 100000 in
theorem int_post (h : Nat) (l : List Int) (w : World) (r : RIn B w h l 0) : Calls Tryz.prog 100 #[.pointer (some ⟨h, 0, none⟩)] w (RPost B isI h (rdInt l) w) := by
  by_cases he : rvE l l.length = 0
  · refine (int_ok h l w r he).mono ?_
    rintro e w' ⟨rfl, hr, hg⟩
    rw [rdInt_ok he]
    exact ⟨hg, hr, .inl ⟨rfl, _, rfl, rfl⟩⟩
  · refine (int_bad h l w r he).mono ?_
    rintro e w' ⟨rfl, rfl⟩
    rw [rdInt_bad he]
    exact ⟨World.grownBy.refl _ _, r, .inr ⟨he, rfl⟩⟩
theorem RIn.wf {w : World} {h : Nat} {l : List Int} {e : Int} (r : RIn B w h l e) : ∀ y ∈ l, (Lit.int .u8 y).wf = true := by obtain ⟨a, n, c, r⟩ := r; exact r.rd.wf
theorem rdInt_bd {l : List Int} (h : ∀ y ∈ l, (Lit.int .u8 y).wf = true) : -9223372036854775808 ≤ (rdInt l).v ∧ (rdInt l).v ≤ 9223372036854775807 := by
  by_cases he : rvE l l.length = 0
  · rw [rdInt_ok he]
    exact zagI_bd _ (rdV_bd _ _) (rdV_lt _ _ (rd_nth_pos l h 9))
  · rw [rdInt_bad he]
    exact ⟨(show (-9223372036854775808 : Int) ≤ 0 by decide), (show (0 : Int) ≤ 9223372036854775807 by decide)⟩
theorem heap_kept {w w' : World} {h k : Nat} {o : Obj} (ho : w.heap[k]? = some o) (hg : w.grownBy w' (some h)) (hk : k ≠ h) : w'.heap[k]? = some o := by
  rw [hg.block k (Array.getElem?_eq_some_iff.1 ho).1 (fun e => hk (Option.some.inj e))]; exact ho
theorem one_cell {w : World} {k T : Nat} {v : Value} (ho : w.heap[k]? = some (.cells #[v] T (0, 0))) : w.cell? ⟨k, 0, none⟩ = some v := by rw [cell_of_row w _ _ _ _ _ ho]; rfl
end Go.Proofs.YtnbjodoajfkekaaGreat

namespace Go.Proofs.YtnbjodoajfkekaaGreat
open Go.RowKit
/-- How reading something ends. -/
def EPost (B : Nat) {α : Type} (val : Nat → α → Value → World → Prop) (h : Nat) (r : Rd α) (w : World) (e : Ending) (w' : World) : Prop :=
  w.grownBy w' (some h) ∧ RIn B w' h r.l r.e ∧ ∃ v, e = .returned v ∧ val w.heap.size r.v v w'
variable {B : Nat}
set_option maxRecDepth 100000 in
theorem ta_yes (E : Int) (w : World) : (Instr.typeAssert (.iface 29 (.int .i64 E)) 20 29 true).run Tryz.prog w = .ok (.tuple #[.int .i64 E, .bool true]) w := by kernel_rfl
set_option maxRecDepth 100000 in
theorem ta_no (w : World) : (Instr.typeAssert .nilIface 20 29 true).run Tryz.prog w = .ok (.tuple #[.int .i64 0, .bool false]) w := by kernel_rfl
theorem owns_ge {k : IntKind} {e : TypeId} {w : World} {base : Nat} {q : Addr} {n c : Nat} {l : List Int} (h : Owns k e w base (.slice (some q) n c) l) (hn : 0 < n) : base ≤ q.block := by
  rcases h.2 with ⟨_, a', hv, ha⟩ | h2
  · injection hv with h1 h2 h3
    omega
  · rcases h2.2 with ⟨hv, _⟩ | ⟨g, cap, cur, hv, hb, _⟩
    · injection hv with h1 h2 h3
      cases h1
    · injection hv with h1 h2 h3
      injection h1 with h1
      rw [h1]
      exact hb
theorem Owns.spot {k : IntKind} {e : TypeId} {w : World} {base : Nat} {a : Option Addr} {n c : Nat} {l : List Int} (h : Owns k e w base (.slice a n c) l) (q : Addr) (hq : a = some q) : q.spot = none := by
  rcases h.2 with ⟨_, a', hv, ha⟩ | h2
  · injection hv with h1 h2 h3
    exact ha q (by rw [← h1]; exact hq)
  · rcases h2.2 with ⟨hv, _⟩ | ⟨g, cap, cur, hv, _⟩
    · injection hv with h1 h2 h3
      rw [h1] at hq
      cases hq
    · injection hv with h1 h2 h3
      rw [h1] at hq
      injection hq with hq
      rw [← hq]
set_option linter.unusedSimpArgs false in
set_option linter.unusedVariables false in
set_option maxRecDepth 100000 in
set_option maxHeartbeats 1000000 in
theorem tryI64_catch (O P h : Nat) (x : Value) (E : Int) (a : Option Addr) (n c : Nat) (l : List Int) (w : World) (hP : w.heap[P]? = some (.cells #[.pointer (some ⟨h, 0, none⟩)] 123 (0, 0))) (hO : w.heap[O]? = some (.cells #[x] 2 (0, 0))) (r : CRdr B w h a n c l 0) :
    CallsD Tryz.prog 117 #[.pointer (some ⟨P, 0, none⟩), .pointer (some ⟨O, 0, none⟩)] (.panicking ({ v := .iface 29 (.int .i64 E), recovered := false } :: [])) w fun e u' w' =>
      e = .returned (.tuple #[]) ∧ u' = .panicking ({ v := .iface 29 (.int .i64 E), recovered := true } :: []) ∧ w' = (w.setCell ⟨h, 1, none⟩ (.int .i64 E)).setCell ⟨O, 0, none⟩ (.int .i64 0) := by
  have c0 := one_cell hP
  have f1 : ∀ i, w.frozen? ⟨O, i, none⟩ = false := fun i => frozen_of_row w _ i _ _ hO
  have cO := one_cell hO
  obtain ⟨_, c1, cf⟩ := r.cells
  refine callsD_of_wpS Tryz.func117 rfl fun c₀ cs hu => ?_
  simp only [Tryz.ntmps117, List.size_toArray, List.length_cons, List.length_nil, Nat.reduceAdd, Nat.reduceSub, Array.replicate_succ, Array.replicate_zero, List.push_toArray, List.append_toArray, List.nil_append, List.cons_append]
  apply wpS_seq
  apply wpS_region
  simp [wpOpsS, go_sem, recoverD, hu, ta_yes, Exit.thenS]
  refine wpS_of_wp ?_
  clear hP hO r
  go_wp2
  exact ⟨rfl, _, rfl, _, results_none rfl _ _ _, rfl, rfl, rfl⟩
set_option maxRecDepth 100000 in
theorem tryI64_idle (O P : Nat) (w : World) :
    CallsD Tryz.prog 117 #[.pointer (some ⟨P, 0, none⟩), .pointer (some ⟨O, 0, none⟩)] .returning w fun e u' w' => e = .returned (.tuple #[]) ∧ u' = .returning ∧ w' = w := by
  refine callsD_of_wpS Tryz.func117 rfl fun c₀ cs hu => ?_
  simp only [Tryz.ntmps117, List.size_toArray, List.length_cons, List.length_nil, Nat.reduceAdd, Nat.reduceSub, Array.replicate_succ, Array.replicate_zero, List.push_toArray, List.append_toArray, List.nil_append, List.cons_append]
  apply wpS_seq
  apply wpS_region
  simp [wpOpsS, go_sem, recoverD, hu, ta_no, Exit.thenS]
  refine wpS_of_wp ?_
  go_wp2
  exact ⟨rfl, .returning, by rw [← hu], _, results_none rfl _ _ _, rfl, rfl, rfl⟩
set_option linter.unusedSimpArgs false in
set_option linter.unusedVariables false in
set_option maxRecDepth 100000 in
set_option maxHeartbeats 1000000 in
theorem tryI64_int (h : Nat) (l : List Int) (e0 : Int) (w : World) (r : RIn B w h l e0) :
    Calls Tryz.prog 99 #[.pointer (some ⟨h, 0, none⟩), .func (.func 100) #[.pointer (some ⟨h, 0, none⟩)] #[]] w (EPost B isI h (rdFrom e0 0 l (rdInt l)) w) := by
  have hmf : ∀ (fn : Fn) (first cap : Array Value) (w : World), (Instr.makeFunc fn first cap).run Tryz.prog w = .ok (.func fn first cap) w := fun _ _ _ _ => rfl
  have hlt := r.lt
  obtain ⟨a0, n0, c0, hcr⟩ := r
  obtain ⟨cb, ce, cf⟩ := hcr.cells
  have r : RIn B w h l e0 := ⟨a0, n0, c0, hcr⟩
  have hb1 : Below w.heap.size w ((w.alloc (.cells #[.pointer (some ⟨h, 0, none⟩)] 123)).alloc (.cells #[.int .i64 0] 2)) := ((Below.refl _ _).alloc (Nat.le_refl _) _).alloc (by simp) _
  obtain ⟨w1, hw1⟩ : ∃ w1, (w.alloc (.cells #[.pointer (some ⟨h, 0, none⟩)] 123)).alloc (.cells #[.int .i64 0] 2) = w1 := ⟨_, rfl⟩
  have hP : w1.heap[w.heap.size]? = some (.cells #[.pointer (some ⟨h, 0, none⟩)] 123 (0, 0)) := by
    rw [← hw1]
    show ((w.heap.push _).push _)[w.heap.size]? = _
    simp [Array.getElem?_push]
  have hO : w1.heap[w.heap.size + 1]? = some (.cells #[.int .i64 0] 2 (0, 0)) := by
    rw [← hw1]
    have := heap_alloc_new (w.alloc (.cells #[.pointer (some ⟨h, 0, none⟩)] 123)) (.cells #[.int .i64 0] 2)
    simpa using this
  have hsz1 : w1.heap.size = w.heap.size + 2 := by rw [← hw1]; simp
  rw [hw1] at hb1
  have hr1 := r.below hb1
  have HR1 := Lib.hid hr1
  have HG1 : Hid (w.grownBy w1 (some h)) := below_grown hb1 hlt
  have HP := Lib.hid hP
  have HO := Lib.hid hO
  have HSZ := Lib.hid hsz1
  have HW1 := Lib.hid hw1
  clear r hr1 hP hO hsz1 hb1 hcr hw1
  by_cases h0 : e0 = 0
  · subst h0
    rw [rdFrom_ok]
    go_enter_defers Tryz.func99, Tryz.ntmps99
    go_wp2_with fail
    rw [HW1.out]
    have hl1 := HSZ.out
    refine (int_post h l _ HR1.out).mono ?_
    rintro e w2 ⟨hg, hr2, hcase⟩
    have HG2 := Lib.hid (grown_trans HG1.out hg)
    have hP2 := heap_kept HP.out hg (by omega)
    have hO2 := heap_kept HO.out hg (by omega)
    have HP2 := Lib.hid hP2
    have HO2 := Lib.hid hO2
    have cO2 := one_cell hO2
    have fO2 : ∀ i, w2.frozen? ⟨w.heap.size + 1, i, none⟩ = false := fun i => frozen_of_row w2 _ i _ _ hO2
    have HR2 := Lib.hid hr2
    have hs2 := hg.size
    clear hg hP2 hO2 hr2
    rcases hcase with ⟨hz, v, rfl, hv⟩ | ⟨hz, rfl⟩
    · have HZ := Lib.hid hz
      replace hv : v = .int .i64 (rdInt l).v := hv
      subst hv
      go_wp2_with fail
      refine leaves_cons (f := 117) (args := #[.pointer (some ⟨w.heap.size, 0, none⟩), .pointer (some ⟨w.heap.size + 1, 0, none⟩)]) (by simp) (by simp [go_sem]) ?_
      refine (tryI64_idle (w.heap.size + 1) w.heap.size _).mono ?_
      rintro e u' w'' ⟨rfl, rfl, rfl⟩
      simp [Leaves, settle, results, Tryz.results99, go_sem, cO2]
      refine ⟨grown_more HG2.out (rcell_grown _ (w.heap.size + 1) 0 _) (fun g hg => by injection hg with hg; omega), ?_, _, rfl, rfl⟩
      rw [HZ.out]
      exact HR2.out.grown (rcell_grown _ (w.heap.size + 1) 0 _) (fun g hg => by injection hg with hg; omega)
    · show Leaves _ _ _ _ _ _ _
      refine leaves_cons (f := 117) (args := #[.pointer (some ⟨w.heap.size, 0, none⟩), .pointer (some ⟨w.heap.size + 1, 0, none⟩)]) (by simp) (by simp [go_sem]) ?_
      obtain ⟨a2, n2, c2, hc2⟩ := HR2.out
      refine (tryI64_catch (w.heap.size + 1) w.heap.size h _ _ a2 n2 c2 _ _ HP2.out HO2.out hc2).mono ?_
      rintro e u' w'' ⟨rfl, rfl, rfl⟩
      have cO3 : (w2.setCell ⟨h, 1, none⟩ (.int .i64 (rdInt l).e)).cell? ⟨w.heap.size + 1, 0, none⟩ = some (.int .i64 0) := by
        rw [World.cell?_of_block (a := ⟨w.heap.size + 1, 0, none⟩) (heap_setCell_other w2 ⟨h, 1, none⟩ (w.heap.size + 1) _ (by simp; omega))]; exact cO2
      simp [Leaves, settle, results, Tryz.results99, go_sem, cO3]
      exact ⟨grown_more (grown_trans HG2.out (rcell_grown _ h 1 _)) (rcell_grown _ (w.heap.size + 1) 0 _) (fun g hg => by injection hg with hg; omega), ⟨_, _, _, (hc2.setE _).grown (rcell_grown _ (w.heap.size + 1) 0 _) (fun g hg => by injection hg with hg; omega)⟩, _, rfl, by rw [rdInt_z hz]; rfl⟩
  · have hne : (e0 != 0) = true := by simpa using h0
    rw [rdFrom_bad _ _ _ h0]
    go_enter_defers Tryz.func99, Tryz.ntmps99
    go_wp2_with fail
    refine ⟨.int .i64 0, by simp [results, Tryz.results99, go_sem], ?_⟩
    rw [HW1.out]
    exact ⟨HG1.out, HR1.out, _, rfl, rfl⟩
theorem heap_old (w : World) (o : Obj) {k : Nat} (h : k < w.heap.size) : (w.alloc o).heap[k]? = w.heap[k]? := by
  show (w.heap.push o)[k]? = _
  simp [Array.getElem?_push, Nat.ne_of_lt h]
set_option linter.unusedSimpArgs false in
set_option linter.unusedVariables false in
set_option maxRecDepth 100000 in
set_option maxHeartbeats 1000000 in
theorem rInt_any (h : Nat) (l : List Int) (e0 : Int) (w : World) (r : RIn B w h l e0) :
    Calls Tryz.prog 66 #[.pointer (some ⟨h, 0, none⟩)] w (EPost B isI h (rdFrom e0 0 l (rdInt l)) w) := by
  have R := Lib.hid r
  clear r
  go_enter Tryz.func66, Tryz.ntmps66
  have hmf : ∀ (fn : Fn) (first cap : Array Value) (w : World), (Instr.makeFunc fn first cap).run Tryz.prog w = .ok (.func fn first cap) w := fun _ _ _ _ => rfl
  go_wp2_with fail
  refine (tryI64_int h l e0 _ R.out).mono ?_
  rintro e w2 ⟨hg, hr, v, rfl, hv⟩
  replace hv : v = .int .i64 _ := hv
  subst hv
  have HR := Lib.hid hr
  clear hr
  go_wp2_with fail
  go_ret
  exact ⟨hg, HR.out, _, rfl, rfl⟩
/-- What is wrong in the end. -/
def rdEnd (e0 : Int) (l : List Int) : Int := if e0 = 0 ∧ l ≠ [] then 22 else e0
set_option linter.unusedSimpArgs false in
set_option linter.unusedVariables false in
set_option maxRecDepth 100000 in
set_option maxHeartbeats 1000000 in
theorem rEnd_any (h : Nat) (l : List Int) (e0 : Int) (w : World) (r : RIn B w h l e0) :
    Calls Tryz.prog 68 #[.pointer (some ⟨h, 0, none⟩)] w fun e w' => e = .returned (.int .i64 (rdEnd e0 l)) ∧ w = w' := by
  obtain ⟨a, n, c, r⟩ := r
  obtain ⟨c0, c1, cf⟩ := r.cells
  have hl := r.rd.len
  have hE : rdEnd e0 l = if e0 = 0 ∧ l ≠ [] then 22 else e0 := rfl
  rw [hE]
  clear r hE
  by_cases h0 : e0 = 0
  · subst h0
    by_cases hn : n = 0
    · subst hn
      rw [if_neg (fun h => h.2 (List.length_eq_zero_iff.1 hl))]
      clear hl
      go_enter Tryz.func68, Tryz.ntmps68
      go_wp2
      go_ret
      exact ⟨rfl, rfl⟩
    · rw [if_pos ⟨rfl, fun h => hn (by rw [← hl, h]; rfl)⟩]
      have d1 : decide ((0 : Int) < n) = true := decide_eq_true (by omega)
      have d2 : decide (0 < n) = true := decide_eq_true (by omega)
      clear hl
      go_enter Tryz.func68, Tryz.ntmps68
      go_wp2
      go_ret
      exact ⟨rfl, rfl⟩
  · rw [if_neg (fun h => h0 h.1)]
    have hne : (e0 == 0) = false := beq_eq_false_iff_ne.2 h0
    clear hl
    go_enter Tryz.func68, Tryz.ntmps68
    go_wp2
    go_ret
    exact ⟨rfl, rfl⟩
set_option linter.unusedSimpArgs false in
set_option linter.unusedVariables false in
set_option maxRecDepth 100000 in
set_option maxHeartbeats 1000000 in
theorem newreader_any (a : Option Addr) (n c : Nat) (l : List Int) (w : World) (hr : RdAt .u8 w a n c l) (hn : n ≤ 1000000000) :
    Calls Tryz.prog 65 #[.slice a n c] w fun e w' => ∃ h, e = .returned (.pointer (some ⟨h, 0, none⟩)) ∧ w.heap.size ≤ h ∧ RIn w.heap.size w' h l 0 ∧ Below w.heap.size w w' := by
  go_enter Tryz.func65, Tryz.ntmps65
  go_wp2_with fail
  refine (clone_any _ _ _ l _ hr hn).mono ?_
  rintro e w1 ⟨v1, rfl, ho1, hb1⟩
  obtain ⟨q1, hq1⟩ : ∃ q1, l.length = q1 := ⟨_, rfl⟩
  obtain ⟨a1, k1, rfl⟩ := ho1.shapeN q1 hq1
  have HO1 := Lib.hid ho1
  have HB1 := Lib.hid hb1
  have HQ1 := Lib.hid hq1
  clear ho1 hb1 hq1
  go_wp2_with fail
  go_ret
  refine ⟨_, rfl, HB1.out.size, ⟨_, _, _, heap_alloc_new _ _, HO1.out.rd.alloc _, fun q hq hn => ?_, fun q hq => HO1.out.spot q hq, fun q hq hn => ?_⟩, HB1.out.trans (((Below.refl w1.heap.size w1).alloc (Nat.le_refl _) _).mono HB1.out.size)⟩
  subst hq
  obtain ⟨b, o, e, hc⟩ := HO1.out.rd.cell 0 hn
  injection e with e
  subst e
  exact block_lt_of_cell hc
  subst hq
  obtain ⟨b, o, e, hc⟩ := HO1.out.rd.cell 0 hn
  injection e with e
  subst e
  exact owns_ge HO1.out hn
end Go.Proofs.YtnbjodoajfkekaaGreat

namespace Go.Proofs.YtnbjodoajfkekaaGreat
open Go.RowKit
variable {B : Nat}
set_option linter.unusedSimpArgs false in
set_option linter.unusedVariables false in
set_option maxRecDepth 100000 in
set_option maxHeartbeats 1000000 in
theorem count_any (h : Nat) (most : Int) (l : List Int) (w : World) (r : RIn B w h l 0) :
    Calls Tryz.prog 103 #[.pointer (some ⟨h, 0, none⟩), .int .i64 most] w (RPost B isI h (rdBetween 0 most l) w) := by
  have hbd := rdInt_bd r.wf
  go_enter Tryz.func103, Tryz.ntmps103
  go_wp2_with fail
  refine (int_post h l w r).mono ?_
  rintro e w1 ⟨hg, hr, hcase⟩
  obtain ⟨N, hN⟩ : ∃ N, (rdInt l).v = N := ⟨_, rfl⟩
  rcases hcase with ⟨h0, v, rfl, hv⟩ | ⟨h1, rfl⟩
  · replace hv : v = .int .i64 (rdInt l).v := hv
    rw [hN] at hv hbd
    subst hv
    have HN := Lib.hid hN
    have H0 := Lib.hid h0
    clear hN h0
    by_cases q1 : N < 0
    · have d1 : decide (N < 0) = true := decide_eq_true q1
      have HB : Hid (rdBetween 0 most l = ⟨22, 0, (rdInt l).l⟩) := by show _ = _; unfold rdBetween; rw [if_neg (by simpa using H0.out), HN.out, if_pos (.inl q1)]
      go_wp2_with fail
      refine (refuse_yes 22 _).mono ?_
      rintro e w2 ⟨rfl, rfl⟩
      refine ⟨rfl, ?_⟩
      rw [HB.out]
      exact ⟨hg, hr, .inr ⟨(show (22 : Int) ≠ 0 by decide), rfl⟩⟩
    · have d1 : decide (N < 0) = false := decide_eq_false q1
      by_cases q2 : most < N
      · have d2 : decide (most < N) = true := decide_eq_true q2
        have HB : Hid (rdBetween 0 most l = ⟨22, 0, (rdInt l).l⟩) := by show _ = _; unfold rdBetween; rw [if_neg (by simpa using H0.out), HN.out, if_pos (.inr q2)]
        go_wp2_with fail
        refine (refuse_yes 22 _).mono ?_
        rintro e w2 ⟨rfl, rfl⟩
        refine ⟨rfl, ?_⟩
        rw [HB.out]
        exact ⟨hg, hr, .inr ⟨(show (22 : Int) ≠ 0 by decide), rfl⟩⟩
      · have d2 : decide (most < N) = false := decide_eq_false q2
        have HB : Hid (rdBetween 0 most l = rdInt l) := by show _ = _; unfold rdBetween; rw [if_neg (by simpa using H0.out), HN.out, if_neg (by omega)]
        go_wp2_with fail
        refine (refuse_no 22 _).mono ?_
        rintro e w2 ⟨rfl, rfl⟩
        go_wp2_with fail
        go_ret
        rw [HB.out]
        exact ⟨hg, hr, .inl ⟨H0.out, _, rfl, by rw [HN.out]; rfl⟩⟩
  · have HB : Hid (rdBetween 0 most l = ⟨(rdInt l).e, 0, (rdInt l).l⟩) := by show _ = _; unfold rdBetween; rw [if_pos h1]
    refine ⟨rfl, ?_⟩
    rw [HB.out]
    exact ⟨hg, hr, .inr ⟨h1, rfl⟩⟩
set_option linter.unusedSimpArgs false in
set_option linter.unusedVariables false in
set_option maxRecDepth 100000 in
set_option maxHeartbeats 1000000 in
theorem bytes1_any (h R M : Nat) (most : Int) (l : List Int) (w : World) (r : RIn B w h l 0) (hR : w.heap[R]? = some (.cells #[.pointer (some ⟨h, 0, none⟩)] 123 (0, 0))) (hM : w.heap[M]? = some (.cells #[.int .i64 most] 3 (0, 0))) (kR : R ≠ h) (kM : M ≠ h) (hl : l.length ≤ 1000000) :
    Calls Tryz.prog 102 #[.pointer (some ⟨R, 0, none⟩), .pointer (some ⟨M, 0, none⟩)] w (RPost B isB h (rdBytes most l) w) := by
  have cR0 := one_cell hR
  have cM0 := one_cell hM
  have hR0 := Lib.hid hR
  clear hR
  go_enter Tryz.func102, Tryz.ntmps102
  go_wp2_with fail
  refine (count_any h most l w r).mono ?_
  rintro e w1 ⟨hg, hr, hcase⟩
  have hR1 := Lib.hid (heap_kept hR0.out hg kR)
  have cR := one_cell hR1.out
  clear cR0 cM0
  rcases hcase with ⟨h0, v, rfl, hv⟩ | ⟨h1, rfl⟩
  · replace hv : v = .int .i64 (rdBetween 0 most l).v := hv
    obtain ⟨hb1, hb2, hb3, hb4⟩ := rdBetween_ok h0
    have hsh := rdInt_len hb2
    rw [← hb1] at hb3 hb4 hsh
    obtain ⟨N, hN⟩ : ∃ N, (rdBetween 0 most l).v = N := ⟨_, rfl⟩
    obtain ⟨l1, hl1⟩ : ∃ l1, (rdBetween 0 most l).l = l1 := ⟨_, rfl⟩
    rw [hN] at hv hb3 hb4
    rw [hl1] at hr hsh
    subst hv
    obtain ⟨k, rfl⟩ := Int.eq_ofNat_of_zero_le hb3
    have HN := Lib.hid hN
    have HL1 := Lib.hid hl1
    have H0 := Lib.hid h0
    obtain ⟨a, n, c, hc⟩ := hr
    obtain ⟨c0, c1, cf⟩ := hc.cells
    have hln := hc.rd.len
    rw [hln] at hsh
    have hcap := hc.rd.cap
    have hmax := hc.rd.max
    unfold maxLen at hmax
    have HC := Lib.hid hc
    have HLN := Lib.hid hln
    clear hN hl1 h0 hb1 hb2 hc hln
    by_cases q : n < k
    · have d1 : decide ((n : Int) < k) = true := decide_eq_true (by omega)
      have d1n : decide (n < k) = true := decide_eq_true q
      have HB : Hid (rdBytes most l = ⟨21, [], l1⟩) := by show _ = _; unfold rdBytes; rw [if_neg (by simpa using H0.out), HN.out, HL1.out, HLN.out, if_pos (by omega)]
      go_wp2_with fail
      refine (refuse_yes 21 _).mono ?_
      rintro e w2 ⟨rfl, rfl⟩
      refine ⟨rfl, ?_⟩
      rw [HB.out]
      exact ⟨hg, ⟨_, _, _, HC.out⟩, .inr ⟨(show (21 : Int) ≠ 0 by decide), rfl⟩⟩
    · have d1 : decide ((n : Int) < k) = false := decide_eq_false (by omega)
      have d1n : decide (n < k) = false := decide_eq_false q
      have hkn : k ≤ n := by omega
      have hkc : k ≤ c := by omega
      have HB : Hid (rdBytes most l = ⟨0, l1.take k, l1.drop k⟩) := by show _ = _; unfold rdBytes; rw [if_neg (by simpa using H0.out), HN.out, HL1.out, HLN.out, if_neg (by omega)]; rfl
      have hrt := rd_takeR HC.out.rd k c (by omega) (by omega) (Nat.le_refl _) HC.out.rd.void
      have HRT := Lib.hid hrt
      clear hrt
      go_wp2_with fail
      refine (refuse_no 21 _).mono ?_
      rintro e w2 ⟨rfl, rfl⟩
      go_wp2_with fail
      refine (clone_any _ _ _ (l1.take k) _ HRT.out (by omega)).mono ?_
      rintro e w3 ⟨v3, rfl, ho3, hb3'⟩
      have HO3 := Lib.hid ho3
      have HC3 := Lib.hid (HC.out.below hb3')
      have HG3 : Hid (w.grownBy w3 (some h)) := grown_trans hg (below_grown hb3' HC.out.lt)
      have hR3 := Lib.hid (below_row hR1.out hb3')
      have cR3 := one_cell hR3.out
      have HSZ := Lib.hid hb3'.size
      clear c0 c1 cf cR ho3 hb3'
      obtain ⟨c0, c1, cf⟩ := HC3.out.cells
      obtain ⟨q3, hq3⟩ : ∃ q3, (l1.take k).length = q3 := ⟨_, rfl⟩
      obtain ⟨a3, k3, rfl⟩ := HO3.out.shapeN q3 hq3
      clear hq3
      have hGsz := hg.size
      cases a with
      | none =>
        obtain rfl : c = 0 := HC.out.rd.void rfl
        obtain rfl : n = 0 := by omega
        obtain rfl : k = 0 := by omega
        go_wp2_with fail
        go_region
        go_wp2_with fail
        go_ret
        rw [HB.out]
        refine ⟨grown_trans HG3.out (grown_drew (rcell_grown _ _ _ _)), ⟨_, _, _, crdr_drew (HC3.out.setB (l' := l1.drop 0) (by rw [List.drop_zero]; exact HC3.out.rd) HC3.out.lo HC3.out.sp HC3.out.hi)⟩, .inl ⟨rfl, _, rfl, ?_⟩⟩
        exact (HO3.out.grown (rcell_grown _ _ _ _) (fun g hg' e => by have h1 := (HO3.out.at_base g hg').1; have h2 := HC.out.lt; injection e with e; omega)).mono hGsz
      | some ad =>
        obtain ⟨b, o, rfl⟩ : ∃ b o, ad = ⟨b, o, none⟩ := by
          obtain ⟨b, o, sp⟩ := ad
          have := HC.out.sp _ rfl
          exact ⟨b, o, by rw [show sp = none from this]⟩
        have hif : ∀ (A B : Option Addr), (if c = k then A else B) = pkr c k A B := fun _ _ => rfl
        have R4 := Lib.hid (rd_pkr HC3.out.rd k (by omega))
        go_wp2_with fail
        go_region
        go_wp2_with fail
        go_ret
        rw [HB.out]
        refine ⟨grown_trans HG3.out (grown_drew (rcell_grown _ _ _ _)), ⟨_, _, _, crdr_drew (HC3.out.setB R4.out (fun q hq hn => by rw [pkr_block hq]; exact HC.out.lo _ rfl (by omega)) (fun q hq => pkr_spot hq) (fun q hq hn => by rw [pkr_block hq]; exact HC.out.hi _ rfl (by omega)))⟩, .inl ⟨rfl, _, rfl, ?_⟩⟩
        exact (HO3.out.grown (rcell_grown _ _ _ _) (fun g hg' e => by have h1 := (HO3.out.at_base g hg').1; have h2 := HC.out.lt; injection e with e; omega)).mono hGsz
  · have HB : Hid (rdBytes most l = ⟨(rdBetween 0 most l).e, [], (rdBetween 0 most l).l⟩) := by show _ = _; unfold rdBytes; rw [if_pos h1]
    refine ⟨rfl, ?_⟩
    rw [HB.out]
    exact ⟨hg, hr, .inr ⟨h1, rfl⟩⟩
set_option maxRecDepth 100000 in
theorem i64I3 : elemInfo Tryz.prog 3 .i64 8 := by unfold elemInfo; kernel_rfl
set_option maxRecDepth 100000 in
theorem i64T3 : Tryz.prog.underlying 43 = some (.slice 3) := Tryz.underlying43
theorem rdInts_bad {k : Nat} {l : List Int} (h : (rdInt l).e ≠ 0) : rdInts (k + 1) l = ⟨(rdInt l).e, [], (rdInt l).l⟩ := by rw [rdInts, if_pos h]
/-- What so many numbers come to, when some have been read. -/
def accR (acc : List Int) (r : Rd (List Int)) : Rd (List Int) := if r.e ≠ 0 then ⟨r.e, [], r.l⟩ else ⟨0, acc ++ r.v, r.l⟩
theorem acc_step {acc : List Int} {k : Nat} {l : List Int} (h : (rdInt l).e = 0) : accR acc (rdInts (k + 1) l) = accR (acc ++ [(rdInt l).v]) (rdInts k (rdInt l).l) := by
  rw [rdInts, if_neg (by simpa using h)]
  unfold accR
  by_cases h2 : (rdInts k (rdInt l).l).e = 0
  · rw [if_neg (show ¬ (rdInts k (rdInt l).l).e ≠ 0 by simpa using h2)]
    simp [h2]
  · rw [if_pos h2]
    simp [h2]
end Go.Proofs.YtnbjodoajfkekaaGreat

namespace Go.Proofs.YtnbjodoajfkekaaGreat
open Go.RowKit
variable {B : Nat}
set_option linter.unusedSimpArgs false in
set_option linter.unusedVariables false in
set_option maxRecDepth 100000 in
set_option maxHeartbeats 1000000 in
theorem tryB_catch (O P h : Nat) (x : Value) (E : Int) (a : Option Addr) (n c : Nat) (l : List Int) (w : World) (hP : w.heap[P]? = some (.cells #[.pointer (some ⟨h, 0, none⟩)] 123 (0, 0))) (hO : w.heap[O]? = some (.cells #[x] 36 (0, 0))) (r : CRdr B w h a n c l 0) :
    CallsD Tryz.prog 120 #[.pointer (some ⟨P, 0, none⟩), .pointer (some ⟨O, 0, none⟩)] (.panicking ({ v := .iface 29 (.int .i64 E), recovered := false } :: [])) w fun e u' w' =>
      e = .returned (.tuple #[]) ∧ u' = .panicking ({ v := .iface 29 (.int .i64 E), recovered := true } :: []) ∧ w' = (w.setCell ⟨h, 1, none⟩ (.int .i64 E)).setCell ⟨O, 0, none⟩ (.slice none 0 0) := by
  have c0 := one_cell hP
  have f1 : ∀ i, w.frozen? ⟨O, i, none⟩ = false := fun i => frozen_of_row w _ i _ _ hO
  have cO := one_cell hO
  obtain ⟨_, c1, cf⟩ := r.cells
  refine callsD_of_wpS Tryz.func120 rfl fun c₀ cs hu => ?_
  simp only [Tryz.ntmps120, List.size_toArray, List.length_cons, List.length_nil, Nat.reduceAdd, Nat.reduceSub, Array.replicate_succ, Array.replicate_zero, List.push_toArray, List.append_toArray, List.nil_append, List.cons_append]
  apply wpS_seq
  apply wpS_region
  simp [wpOpsS, go_sem, recoverD, hu, ta_yes, Exit.thenS]
  refine wpS_of_wp ?_
  clear hP hO r
  go_wp2
  exact ⟨rfl, _, rfl, _, results_none rfl _ _ _, rfl, rfl, rfl⟩
set_option maxRecDepth 100000 in
theorem tryB_idle (O P : Nat) (w : World) :
    CallsD Tryz.prog 120 #[.pointer (some ⟨P, 0, none⟩), .pointer (some ⟨O, 0, none⟩)] .returning w fun e u' w' => e = .returned (.tuple #[]) ∧ u' = .returning ∧ w' = w := by
  refine callsD_of_wpS Tryz.func120 rfl fun c₀ cs hu => ?_
  simp only [Tryz.ntmps120, List.size_toArray, List.length_cons, List.length_nil, Nat.reduceAdd, Nat.reduceSub, Array.replicate_succ, Array.replicate_zero, List.push_toArray, List.append_toArray, List.nil_append, List.cons_append]
  apply wpS_seq
  apply wpS_region
  simp [wpOpsS, go_sem, recoverD, hu, ta_no, Exit.thenS]
  refine wpS_of_wp ?_
  go_wp2
  exact ⟨rfl, .returning, by rw [← hu], _, results_none rfl _ _ _, rfl, rfl, rfl⟩
set_option linter.unusedSimpArgs false in
set_option linter.unusedVariables false in
set_option maxRecDepth 100000 in
set_option maxHeartbeats 1000000 in
theorem tryB_bytes (h : Nat) (R M : Nat) (most : Int) (l : List Int) (e0 : Int) (w : World) (r : RIn B w h l e0) (hR : w.heap[R]? = some (.cells #[.pointer (some ⟨h, 0, none⟩)] 123 (0, 0))) (hM : w.heap[M]? = some (.cells #[.int .i64 most] 3 (0, 0))) (kR : R ≠ h) (kM : M ≠ h) (hl : l.length ≤ 1000000) :
    Calls Tryz.prog 101 #[.pointer (some ⟨h, 0, none⟩), .func (.func 102) #[] #[.pointer (some ⟨R, 0, none⟩), .pointer (some ⟨M, 0, none⟩)]] w (EPost B isB h (rdFrom e0 [] l (rdBytes most l)) w) := by
  have hmf : ∀ (fn : Fn) (first cap : Array Value) (w : World), (Instr.makeFunc fn first cap).run Tryz.prog w = .ok (.func fn first cap) w := fun _ _ _ _ => rfl
  have hlt := r.lt
  obtain ⟨a0, n0, c0, hcr⟩ := r
  obtain ⟨cb, ce, cf⟩ := hcr.cells
  have r : RIn B w h l e0 := ⟨a0, n0, c0, hcr⟩
  have hb1 : Below w.heap.size w ((w.alloc (.cells #[.pointer (some ⟨h, 0, none⟩)] 123)).alloc (.cells #[.slice none 0 0] 36)) := ((Below.refl _ _).alloc (Nat.le_refl _) _).alloc (by simp) _
  obtain ⟨w1, hw1⟩ : ∃ w1, (w.alloc (.cells #[.pointer (some ⟨h, 0, none⟩)] 123)).alloc (.cells #[.slice none 0 0] 36) = w1 := ⟨_, rfl⟩
  have hP : w1.heap[w.heap.size]? = some (.cells #[.pointer (some ⟨h, 0, none⟩)] 123 (0, 0)) := by
    rw [← hw1]
    show ((w.heap.push _).push _)[w.heap.size]? = _
    simp [Array.getElem?_push]
  have hO : w1.heap[w.heap.size + 1]? = some (.cells #[.slice none 0 0] 36 (0, 0)) := by
    rw [← hw1]
    have := heap_alloc_new (w.alloc (.cells #[.pointer (some ⟨h, 0, none⟩)] 123)) (.cells #[.slice none 0 0] 36)
    simpa using this
  have hsz1 : w1.heap.size = w.heap.size + 2 := by rw [← hw1]; simp
  rw [hw1] at hb1
  have hr1 := r.below hb1
  have HRR := Lib.hid (below_row hR hb1)
  have HMM := Lib.hid (below_row hM hb1)
  clear hR hM
  have HR1 := Lib.hid hr1
  have HG1 : Hid (w.grownBy w1 (some h)) := below_grown hb1 hlt
  have HP := Lib.hid hP
  have HO := Lib.hid hO
  have HSZ := Lib.hid hsz1
  have HW1 := Lib.hid hw1
  clear r hr1 hP hO hsz1 hb1 hcr hw1
  by_cases h0 : e0 = 0
  · subst h0
    rw [rdFrom_ok]
    go_enter_defers Tryz.func101, Tryz.ntmps101
    go_wp2_with fail
    rw [HW1.out]
    have hl1 := HSZ.out
    refine (bytes1_any h R M most l _ HR1.out HRR.out HMM.out kR kM hl).mono ?_
    rintro e w2 ⟨hg, hr2, hcase⟩
    have HG2 := Lib.hid (grown_trans HG1.out hg)
    have hP2 := heap_kept HP.out hg (by omega)
    have hO2 := heap_kept HO.out hg (by omega)
    have HP2 := Lib.hid hP2
    have HO2 := Lib.hid hO2
    have cO2 := one_cell hO2
    have fO2 : ∀ i, w2.frozen? ⟨w.heap.size + 1, i, none⟩ = false := fun i => frozen_of_row w2 _ i _ _ hO2
    have HR2 := Lib.hid hr2
    have hs2 := hg.size
    clear hg hP2 hO2 hr2
    rcases hcase with ⟨hz, v, rfl, hv⟩ | ⟨hz, rfl⟩
    · have HZ := Lib.hid hz
      obtain ⟨q2, hq2⟩ : ∃ q2, (rdBytes most l).v.length = q2 := ⟨_, rfl⟩
      obtain ⟨a2, k2, rfl⟩ := Owns.shapeN hv q2 hq2
      have HV := Lib.hid hv
      clear hv hq2
      go_wp2_with fail
      refine leaves_cons (f := 120) (args := #[.pointer (some ⟨w.heap.size, 0, none⟩), .pointer (some ⟨w.heap.size + 1, 0, none⟩)]) (by simp) (by simp [go_sem]) ?_
      refine (tryB_idle (w.heap.size + 1) w.heap.size _).mono ?_
      rintro e u' w'' ⟨rfl, rfl, rfl⟩
      simp [Leaves, settle, results, Tryz.results101, go_sem, cO2]
      refine ⟨grown_more HG2.out (rcell_grown _ (w.heap.size + 1) 0 _) (fun g hg => by injection hg with hg; omega), ?_, _, rfl, (Owns.grown (HV.out) (rcell_grown _ (w.heap.size + 1) 0 _) (fun g hg e => by have h1 := (Owns.at_base (HV.out) g hg).1; injection e with e; omega)).mono (by omega)⟩
      rw [HZ.out]
      exact HR2.out.grown (rcell_grown _ (w.heap.size + 1) 0 _) (fun g hg => by injection hg with hg; omega)
    · show Leaves _ _ _ _ _ _ _
      refine leaves_cons (f := 120) (args := #[.pointer (some ⟨w.heap.size, 0, none⟩), .pointer (some ⟨w.heap.size + 1, 0, none⟩)]) (by simp) (by simp [go_sem]) ?_
      obtain ⟨a2, n2, c2, hc2⟩ := HR2.out
      refine (tryB_catch (w.heap.size + 1) w.heap.size h _ _ a2 n2 c2 _ _ HP2.out HO2.out hc2).mono ?_
      rintro e u' w'' ⟨rfl, rfl, rfl⟩
      have cO3 : (w2.setCell ⟨h, 1, none⟩ (.int .i64 (rdBytes most l).e)).cell? ⟨w.heap.size + 1, 0, none⟩ = some (.slice none 0 0) := by
        rw [World.cell?_of_block (a := ⟨w.heap.size + 1, 0, none⟩) (heap_setCell_other w2 ⟨h, 1, none⟩ (w.heap.size + 1) _ (by simp; omega))]; exact cO2
      simp [Leaves, settle, results, Tryz.results101, go_sem, cO3]
      exact ⟨grown_more (grown_trans HG2.out (rcell_grown _ h 1 _)) (rcell_grown _ (w.heap.size + 1) 0 _) (fun g hg => by injection hg with hg; omega), ⟨_, _, _, (hc2.setE _).grown (rcell_grown _ (w.heap.size + 1) 0 _) (fun g hg => by injection hg with hg; omega)⟩, _, rfl, by rw [rdBytes_z hz]; exact Owns.nil _ _ _ _⟩
  · have hne : (e0 != 0) = true := by simpa using h0
    rw [rdFrom_bad _ _ _ h0]
    go_enter_defers Tryz.func101, Tryz.ntmps101
    go_wp2_with fail
    refine ⟨.slice none 0 0, by simp [results, Tryz.results101, go_sem], ?_⟩
    rw [HW1.out]
    exact ⟨HG1.out, HR1.out, _, rfl, Owns.nil _ _ _ _⟩
set_option linter.unusedSimpArgs false in
set_option linter.unusedVariables false in
set_option maxRecDepth 100000 in
set_option maxHeartbeats 1000000 in
theorem rBytes_any (h : Nat) (most : Int) (l : List Int) (e0 : Int) (w : World) (r : RIn B w h l e0) (hl : l.length ≤ 1000000) :
    Calls Tryz.prog 67 #[.pointer (some ⟨h, 0, none⟩), .int .i64 most] w (EPost B isB h (rdFrom e0 [] l (rdBytes most l)) w) := by
  have hlt := r.lt
  have hb1 : Below w.heap.size w ((w.alloc (.cells #[.pointer (some ⟨h, 0, none⟩)] 123)).alloc (.cells #[.int .i64 most] 3)) := (((Below.refl w.heap.size w).alloc (Nat.le_refl _) _).alloc (by simp) _)
  obtain ⟨w1, hw1⟩ : ∃ w1, ((w.alloc (.cells #[.pointer (some ⟨h, 0, none⟩)] 123)).alloc (.cells #[.int .i64 most] 3)) = w1 := ⟨_, rfl⟩
  have hB0 : w1.heap[w.heap.size]? = some (.cells #[.pointer (some ⟨h, 0, none⟩)] 123 (0, 0)) := by
    rw [← hw1]
    rw [heap_old _ _ (by simp)]
    have := heap_alloc_new w (.cells #[.pointer (some ⟨h, 0, none⟩)] 123)
    simpa using this
  have hB1 : w1.heap[w.heap.size + 1]? = some (.cells #[.int .i64 most] 3 (0, 0)) := by
    rw [← hw1]
    have := heap_alloc_new (w.alloc (.cells #[.pointer (some ⟨h, 0, none⟩)] 123)) (.cells #[.int .i64 most] 3)
    simpa using this
  rw [hw1] at hb1
  have HR1 := Lib.hid (r.below hb1)
  have HG1 : Hid (w.grownBy w1 (some h)) := below_grown hb1 hlt
  have HSZ : Hid (w1.heap.size = w.heap.size + 2) := by show _ = _; rw [← hw1]; simp
  have HW1 := Lib.hid hw1
  have HB0 := Lib.hid hB0
  have HB1 := Lib.hid hB1
  clear r hb1 hw1 hB0 hB1
  go_enter Tryz.func67, Tryz.ntmps67
  have hmf : ∀ (fn : Fn) (first cap : Array Value) (w : World), (Instr.makeFunc fn first cap).run Tryz.prog w = .ok (.func fn first cap) w := fun _ _ _ _ => rfl
  go_wp2_with fail
  rw [HW1.out]
  refine (tryB_bytes h _ _ most l e0 _ HR1.out HB0.out HB1.out (by omega) (by omega) hl).mono ?_
  rintro e w2 ⟨hg, hr, v, rfl, hv⟩
  obtain ⟨q2, hq2⟩ : ∃ q2, (rdFrom e0 [] l (rdBytes most l)).v.length = q2 := ⟨_, rfl⟩
  obtain ⟨a2, k2, rfl⟩ := Owns.shapeN hv q2 hq2
  have HV := Lib.hid hv
  have HR := Lib.hid hr
  clear hr hv hq2
  go_wp2_with fail
  go_ret
  exact ⟨grown_trans HG1.out hg, HR.out, _, rfl, Owns.mono HV.out (by have := HSZ.out; omega)⟩
end Go.Proofs.YtnbjodoajfkekaaGreat
